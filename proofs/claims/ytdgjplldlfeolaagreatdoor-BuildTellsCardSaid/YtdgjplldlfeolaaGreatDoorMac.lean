/- Lemmas whose one argument is found by tactics. -/
import Derived.BigQuiet
import Derived.BigRegion
import Derived.ChangeMaps5
import Derived.Deep.CutRange
import Derived.Deep.Draws
import Derived.Deep.Fields
import Derived.Deep.LoopGhost
import Derived.Deep.QuietTactic
import Derived.Deep.RegionHeld3
import Derived.Deep.RegionLaw
import Derived.Deep.RegionWith
import Derived.Deep.Slices
import Derived.DeepKeys4
import Derived.IntWalk
import Derived.KernelRfl
import Derived.LaidMore
import Derived.Laws.Bits64b
import Derived.Laws.BitsAllLaws
import Derived.Laws.BytesArg
import Derived.Laws.Cells
import Derived.Laws.CopyOwn
import Derived.Laws.Entries
import Derived.Laws.MakeOwn
import Derived.Laws.OwnMore
import Derived.Laws.RangeAny
import Derived.Laws.RangeString
import Derived.Laws.ResultCell
import Derived.Laws.StructEq
import Derived.Lib.Hide
import Derived.Lib.QuietBelow
import Derived.Lib.SmallJoins
import Derived.Maps.Keyed
import Derived.Maps.Own
import Derived.Maps.OwnOps
import Derived.Maps.OwnSet
import Derived.Maps.Views
import Derived.OpenShut
import Derived.OrdersHeld
import Derived.ProofKit
import Derived.RegionTactic
import Derived.SevenTiedAt
import Derived.StillTail
import Derived.StillTailTactics
import Derived.Stop.Joined
import Derived.StringKeys
import Derived.WalkArith
import Derived.WalkKit
import Derived.WalkLawsBesides
import Derived.WalkMore
import Derived.WalkSpells
import Derived.WideKeyEntry
import Derived.WideShapes
set_option linter.unusedVariables false
namespace Go.Proofs.YtdgjplldlfeolaaGreatDoor
open Go.RowKit Go.Sort
theorem Na(W:World)(b o:Nat)(x:Int)(h:W.cell? ⟨b,o,none⟩=some (.int .i64 x)):W.cell? ⟨b,o,none⟩=some (.int .i64 x):=h
theorem Nb(W:World)(b o:Nat)(v:Value)(h:W.cell? ⟨b,o,none⟩=some v):W.cell? ⟨b,o,none⟩=some v:=h
theorem Nc(W:World)(b o:Nat)(h:W.frozen? ⟨b,o,none⟩=false):W.frozen? ⟨b,o,none⟩=false:=h
theorem Nd(w W:World)(h:Below w.heap.size w W):Below w.heap.size w W:=h
theorem Nf{p:Prop}(h:p):Hid p:=Lib.hid h
theorem Ng{A:Type}{l:List A}{i:Nat}(h:i<l.length):l[i]?=some l[i]:=List.getElem?_eq_getElem h
theorem Nh{A:Type}{l:List A}{i:Nat}{a:A}(h:l[i]?=some a):∃h:i<l.length,l[i]=a:=List.getElem?_eq_some_iff.1 h
theorem Ni{A:Type}{l:List A}{i:Nat}{a:A}(h:l[i]?=some a):a∈l:=List.mem_of_getElem? h
theorem Nj{A:Type}{l:List A}{i:Nat}(h:i<l.length):l[i]∈l:=List.getElem_mem h
theorem Nk{A:Type}{a b:List A}:(a++b).length=a.length+b.length:=List.length_append
theorem Nl{A:Type}{a:A}{b:List A}:(a::b).length=b.length+1:=List.length_cons
theorem Nm{A:Type}:([]:List A).length=0:=List.length_nil
theorem Nn{A:Type}{l:List A}:l.drop l.length=[]:=List.drop_length
theorem No{A:Type}{l:List A}{i:Nat}(h:i<l.length):l.drop i=l[i]::l.drop (i+1):=List.drop_eq_getElem_cons h
theorem Np{n:Nat}:0<=n:=Nat.zero_le n
theorem Nq(n:Nat):0<=n:=Nat.zero_le n
theorem Nr{n m k:Nat}(h:n<m)(g:m<=k):n<k:=Nat.lt_of_lt_of_le h g
theorem Ns(n:Nat):n<=n:=Nat.le_refl n
theorem Nt{n:Nat}{w:World}:Below n w w:=Below.refl _ _
theorem Nu{w:World}{a:Addr}{v:Value}(h:w.cell? a=some v):a.block<w.heap.size:=block_lt_of_cell h
theorem Nv{P:Program}{fn:Func}{R:Ending->World->Prop}{a:Act}{w:World}{v:Value}(hr:(results fn a.tmps).run P w = .ok v w)(hd:a.defers=[])(hR:R (.returned v) w):bodyPost P fn R .ret a w:=bodyPost_ret hr hd hR
theorem Nw{w:World}{b:Nat}{e:TypeId}{s:Nat}:w.ownsRow b e s (.slice none 0 0) 0 []:=World.ownsRow_nil _ _ _ _
theorem Nx(w:World)(a:Addr)(v:Value){u:Value}(h:w.cell? a=some u):(w.setCell a v).cell? a=some v:=World.cell?_setCell_same w a v h
theorem Ua{p:Prop}(h:p:=by omega):p:=h
theorem Uc{p:Prop}(h:p:=by go_simp):p:=h
theorem Ud{p:Prop}(h:p:=by simp <;> omega):p:=h
theorem Ue{p:Prop}(h:p:=by kernel_rfl):p:=h
theorem Uf{p:Prop}(h:p:=by rw [ag];go_simp):p:=h
theorem Ug{p:Prop}(h:p:=by decide):p:=h
theorem Uh{p:Prop}(h:p:=by simp):p:=h
theorem Ui{p:Prop}(h:p:=by simp;omega):p:=h
theorem Uj{p:Prop}(h:p:=by rw [hV];go_simp):p:=h
theorem Uk{p:Prop}(h:p:=by rw [hk];rfl):p:=h
theorem Ul{p:Prop}(h:p:=by simp only [List.getElem?_toArray,List.getElem?_cons_succ,List.getElem?_cons_zero];rfl):p:=h
theorem Um{p:Prop}(h:p:=by with_reducible assumption):p:=h
theorem Un{p:Prop}(h:p:=by show ¬(w1.heap.size=w1.heap.size+1\/w2.heap.size<=w1.heap.size);omega):p:=h
theorem Uo{p:Prop}(h:p:=by unfold maxLen;omega):p:=h
theorem Up{p:Prop}(h:p:=by simp only [Kq,Ko,List.size_toArray,Nl,Nm];omega):p:=h
theorem Uq{p:Prop}(h:p:=by simp [results,Tryz.results81,go_sem, *]):p:=h
theorem Us{p:Prop}(h:p:=by show ¬(w2.heap.size=w1.heap.size+1\/w3.heap.size<=w2.heap.size);omega):p:=h
theorem Uu{p:Prop}(h:p:=by rw [bz];go_simp):p:=h
theorem Uv{p:Prop}(h:p:=by injection hb with hb;omega):p:=h
theorem Uw{p:Prop}(h:p:=by go_num):p:=h
theorem Uy{p:Prop}(h:p:=by rw [dq];go_simp):p:=h
theorem Uz{p:Prop}(h:p:=by rw [ag];exact Jb):p:=h
theorem U1{p:Prop}(h:p:=by rw [List.getElem?_toArray];exact Ng (l:=[.string ⟨#[]⟩,.slice none 0 0,.slice none 0 0,.slice none 0 0,.slice none 0 0,.int .u32 0,.int .u32 0,.int .i64 0,.int .i64 0,.int .i64 0,.int .i64 0,.int .i64 0,.int .i64 0,.slice none 0 0,.slice none 0 0,.slice none 0 0,.int .i64 0,.int .i64 0]) hi):p:=h
theorem U2{p:Prop}(h:p:=by intro he;injection he with he;omega):p:=h
theorem U3{p:Prop}(h:p:=by have:=aA.size;simpa using this):p:=h
theorem U4{p:Prop}(h:p:=by simp [results,Tryz.results96,go_sem, *];done):p:=h
theorem U6{p:Prop}(h:p:=by rw [<-aa];simp only [Bool.false_and,Bool.and_false]):p:=h
theorem U7{p:Prop}(h:p:=by rw [List.take_succ_eq_append_getElem am]):p:=h
theorem U8{p:Prop}(h:p:=by simp [results,Tryz.results137,go_sem,exV,Ex.kind,Ex.n,Ex.name,Ex.sub, *]):p:=h
theorem Vb{p:Prop}(h:p:=by rw [HV.out];rfl):p:=h
theorem Vc{p:Prop}(h:p:=by simp [results,Tryz.results42,go_sem,exV,Ex.zero,Ex.kind,Ex.n,Ex.name,Ex.sub, *]):p:=h
theorem Vd{p:Prop}(h:p:=by first|(simp;done)|(simp;omega)):p:=h
theorem Ve{p:Prop}(h:p:=by rw [bt];go_simp):p:=h
theorem Vg{p:Prop}(h:p:=by simp [Value.oneCell']):p:=h
theorem Vi{p:Prop}(h:p:=by simp [results,Tryz.results36,go_sem,tkV, *]):p:=h
theorem Vj{p:Prop}(h:p:=by rw [hV];exact Jc (Jc (Nt) _) _):p:=h
theorem Vk{p:Prop}(h:p:=by rw [hV];exact(((Ja9.new w _ _ _ _).later aA).later (Jc (Jc (Nt) _) _))):p:=h
theorem Vl{p:Prop}(h:p:=by simpa using h):p:=h
theorem Vm{p:Prop}(h:p:=by simp [results,Tryz.results132,go_sem, *]):p:=h
theorem Vp{p:Prop}(h:p:=by rw [hV];exact AtZ.new _ _ _ _ _):p:=h
theorem Vq{p:Prop}(h:p:=by rw [List.getElem?_toArray];exact Ng (l:=[.int .i64 0,.int .i64 0,.int .i64 0]) hi):p:=h
theorem Vr{p:Prop}(h:p:=by rw [List.drop_zero];omega):p:=h
theorem Vu{p:Prop}(h:p:=by rw [ag];simp):p:=h
theorem Vv{p:Prop}(h:p:=by simp [results,Tryz.results42,go_sem,exV,Ex.kind,Ex.n,Ex.name,Ex.sub, *]):p:=h
theorem Vw{p:Prop}(h:p:=by simp [results,Tryz.results54,go_sem, *]):p:=h
theorem Vx{p:Prop}(h:p:=by unfold I32;omega):p:=h
theorem Vy{p:Prop}(h:p:=by unfold I64;omega):p:=h
theorem Vz{p:Prop}(h:p:=by intro he;injection he with e1 e2;first|exact ho e2|exact ho e2.symm):p:=h
theorem La{p:Prop}(h:p:=by show ¬(k=w1.heap.size\/k=w2.heap.size);omega):p:=h
theorem Lb{p:Prop}(h:p:=by rw [show(Tryz.prog.info? 5).get!.bytes=1 by kernel_rfl];omega):p:=h
theorem Lc{p:Prop}(h:p:=by simp at h):p:=h
theorem Ld{p:Prop}(h:p:=by have:=gn.out;simp [Jw] at ai;omega):p:=h
theorem Le{p:Prop}(h:p:=by simp [results,Tryz.results20,go_sem,qeV,Ex.zero,Ex.kind,Ex.n,Ex.name,Ex.sub, *]):p:=h
theorem Lf{p:Prop}(h:p:=by have:=congrArg List.toArray h;simpa using this):p:=h
theorem Lg{p:Prop}(h:p:=by simp [results,Tryz.results7,go_sem,prV,prZ, *]):p:=h
theorem Lh{p:Prop}(h:p:=by intro he;injection he with e1 e2;omega):p:=h
theorem Lk{p:Prop}(h:p:=by simpa using h1):p:=h
theorem Ll{p:Prop}(h:p:=by rintro⟨h1,h2⟩;simp_all):p:=h
theorem Ln{p:Prop}(h:p:=by rw [HV.out]):p:=h
theorem Lo{p:Prop}(h:p:=by rw [eE];exact Nf ((Kos.set po.out (lT.out.later dQ) (Ns _) _ _).later (Jc (Nt) _))):p:=h
theorem Lp{p:Prop}(h:p:=by rw [Ex.typ_eq,aU];rfl):p:=h
theorem Lq{p:Prop}(h:p:=by simpa using hk):p:=h
theorem Lr{p:Prop}(h:p:=by unfold Addr.add;split <;> simp_all):p:=h
theorem Lt{p:Prop}(h:p:=by simp [results,Tryz.results121,go_sem, *]):p:=h
theorem Lu{p:Prop}(h:p:=by rw [Kw];simpa using hj):p:=h
theorem Lv{p:Prop}(h:p:=by simpa using h0):p:=h
theorem Lw{p:Prop}(h:p:=by simpa using h2):p:=h
theorem Lx{p:Prop}(h:p:=by simp [results,Tryz.results29,go_sem, *]):p:=h
theorem Ly{p:Prop}(h:p:=by first|omega|(simp;omega)):p:=h
theorem L1{p:Prop}(h:p:=by rw [ag];(repeat refine Jh ?_);exact Km):p:=h
theorem L3{p:Prop}(h:p:=by simp [hk]):p:=h
theorem L6{p:Prop}(h:p:=by have:=ac.size;simpa using this):p:=h
theorem L7{p:Prop}(h:p:=by rw [ij];simp only [Array.length_toList,size_madeCells];omega):p:=h
theorem L8{p:Prop}(h:p:=by simp [hx]):p:=h
theorem L9{p:Prop}(h:p:=by rw [eE];exact Js (Kn (Jy iK.out dQ) (fun b hb he=>by have:=(iK.out.lt b hb).1;omega) _ _)):p:=h
theorem Fa{p:Prop}(h:p:=by rw [List.getElem?_toArray];exact Ng _):p:=h
theorem Fc{p:Prop}(h:p:=by simp [Ky,Kan,Xn]):p:=h
theorem Fd{p:Prop}(h:p:=by rw [gy];exact Qq _ _ _ bV4 qV):p:=h
theorem Fe{p:Prop}(h:p:=by rw [hV];exact Qq _ _ _ bV3 gK):p:=h
theorem Ff{p:Prop}(h:p:=by simpa using c1):p:=h
theorem Fg{p:Prop}(h:p:=by simpa using c2):p:=h
theorem Fj{p:Prop}(h:p:=by first|exact J8 (J8 ax _) _|exact Jh (Jh ax)|exact Jb):p:=h
theorem Fk{p:Prop}(h:p:=by rw [ByteArray.toList_eq];simpa using hz):p:=h
theorem Fl{p:Prop}(h:p:=by rw [fY.out,hk];simp [Ye];simpa using hn):p:=h
theorem Fm{p:Prop}(h:p:=by simp [results,Tryz.results28,go_sem, *]):p:=h
theorem Fo{p:Prop}(h:p:=by simp [results,Tryz.results34,go_sem, *]):p:=h
theorem Fp{p:Prop}(h:p:=by simpa using hr):p:=h
theorem Fq{p:Prop}(h:p:=by first|trivial|rfl):p:=h
theorem Fs{p:Prop}(h:p:=by rw [dl];exact Nf (Kos.set po.out (pn.out.later bZ) (Ns _) _ _)):p:=h
theorem Ft{p:Prop}(h:p:=by unfold wrap32;omega):p:=h
theorem Fu{p:Prop}(h:p:=by rw [Array.toArray_toList];exact heap_alloc_new w _):p:=h
theorem Fv{p:Prop}(h:p:=by rw [<-h.2];exact Nt):p:=h
theorem Fw{p:Prop}(h:p:=by first|exact Nt|assumption):p:=h
theorem Fx{p:Prop}(h:p:=by rw [Nk];simp only [Nl,Nm];omega):p:=h
theorem Fy{p:Prop}(h:p:=by rw [Kgv];simpa [exC] using hj):p:=h
theorem Fz{p:Prop}(h:p:=by rw [bt];exact Jb):p:=h
theorem F0{p:Prop}(h:p:=by rw [fY.out,hk];simp [Ye]):p:=h
theorem F1{p:Prop}(h:p:=by rw [<-aa];simp only [Bool.true_and,Bool.and_true]):p:=h
theorem F2{p:Prop}(h:p:=by simp [results,Tryz.results107,go_sem,exV,Ex.kind,Ex.n,Ex.name,Ex.sub, *]):p:=h
theorem F3{p:Prop}(h:p:=by first|exact Jh (Jc (Nt) _)|exact Jc (Jh (Nt)) _):p:=h
theorem F4{p:Prop}(h:p:=by simp [results,Tryz.results83,go_sem,tkV,tkZ, *]):p:=h
theorem F5{p:Prop}(h:p:=by rw [aU]):p:=h
theorem F6{p:Prop}(h:p:=by simpa using aO):p:=h
theorem F7{p:Prop}(h:p:=by simpa using bM):p:=h
theorem F8{p:Prop}(h:p:=by simpa using he):p:=h
theorem F9{p:Prop}(h:p:=by simpa using hi):p:=h
theorem Ma{p:Prop}(h:p:=by simpa using hj):p:=h
theorem Mb{p:Prop}(h:p:=by simpa using hz):p:=h
theorem Md{p:Prop}(h:p:=by have:=(h.own.lt g he.symm).1;omega):p:=h
theorem Me{p:Prop}(h:p:=by rw [dl];exact Kn gw (fun b hb he=>by have:=(gw.lt b hb).1;omega) _ _):p:=h
theorem Mg{p:Prop}(h:p:=by have h:=ai;rw [hk] at h;simp [Jw] at h;omega):p:=h
theorem Mh{p:Prop}(h:p:=by rw [Nat.zero_add];exact hc j u hj):p:=h
theorem Mi{p:Prop}(h:p:=by rw [cH];rfl):p:=h
theorem Mj{p:Prop}(h:p:=by rw [hV];simp):p:=h
theorem Mk{p:Prop}(h:p:=by rw [hY2];exact Kok (Nat.le_succ _) _ _ _ hbX):p:=h
theorem Ml{p:Prop}(h:p:=by unfold okS;have:=cM.name;unfold maxLen;omega):p:=h
theorem Mm{p:Prop}(h:p:=by unfold byU;rw [List.getElem?_map,Ng h0];rfl):p:=h
theorem Mn{p:Prop}(h:p:=by have:=gn.out;simp [Jw] at ai;simp [this,ai]):p:=h
theorem Mp{p:Prop}(h:p:=by rw [<-HR.out];rfl):p:=h
theorem Mq{p:Prop}(h:p:=by show ¬(k=B\/k=w1.heap.size);omega):p:=h
theorem Mr{p:Prop}(h:p:=by rw [Kfq];omega):p:=h
theorem Mv{p:Prop}(h:p:=by rw [hX];exact Kok (Ns _) _ _ _ dZ):p:=h
theorem Mx{p:Prop}(h:p:=by simp [hy]):p:=h
theorem My{p:Prop}(h:p:=by simp [results,Tryz.results55,go_sem,fV, *]):p:=h
theorem Mz{p:Prop}(h:p:=by simp [results,Tryz.results91,go_sem,fV, *]):p:=h
theorem M0{p:Prop}(h:p:=by have:=this.2;simp at this;omega):p:=h
theorem M1{p:Prop}(h:p:=by rw [ByteArray.toList_eq,hz];rfl):p:=h
theorem Gc{p:Prop}(h:p:=by rw [eE];exact J4 (Nx _ _ _ (Ja dQ r11))):p:=h
theorem Gd{p:Prop}(h:p:=by rw [Kw];rfl):p:=h
theorem Ge{p:Prop}(h:p:=by have:=cW.size;simpa using this):p:=h
theorem Gf{p:Prop}(h:p:=by have:=gl.size;simpa using this):p:=h
theorem Gh{p:Prop}(h:p:=by simp [Qu];omega):p:=h
theorem Gi{p:Prop}(h:p:=by simp [prZ]):p:=h
theorem Gj{p:Prop}(h:p:=by simp [results,Tryz.results106,go_sem, *]):p:=h
theorem Gk{p:Prop}(h:p:=by simp [results,Tryz.results117,go_sem, *]):p:=h
theorem Gl{p:Prop}(h:p:=by simp [results,Tryz.results128,go_sem, *]):p:=h
theorem Gm{p:Prop}(h:p:=by simpa [exC] using hj):p:=h
theorem Gn{p:Prop}(h:p:=by rw [dl,World.frozen?_setCell];exact(Jf bZ _ _ br).trans g11):p:=h
theorem Gp{p:Prop}(h:p:=by rfl):p:=h
theorem Gq{p:Prop}(h:p:=by rw [Array.length_toList,size_madeCells]):p:=h
theorem Gr{p:Prop}(h:p:=by simp [results,Tryz.results16,go_sem, *]):p:=h
theorem Gs{p:Prop}(h:p:=by simp [results,Tryz.results17,go_sem, *]):p:=h
theorem Gt{p:Prop}(h:p:=by simp [results,Tryz.results40,go_sem, *]):p:=h
theorem Gu{p:Prop}(h:p:=by simp [results,Tryz.results72,go_sem, *]):p:=h
theorem Gv{p:Prop}(h:p:=by have:=HIB.out.len;omega):p:=h
theorem Gw{p:Prop}(h:p:=by simp [Region.wanted,hg]):p:=h
theorem Gy{p:Prop}(h:p:=by exact Km):p:=h
theorem Gz{p:Prop}(h:p:=by rw [Kw];simpa [cdC] using hj):p:=h
theorem G0{p:Prop}(h:p:=by rw [dq];exact Jb):p:=h
theorem G2{p:Prop}(h:p:=by simpa using hd):p:=h
theorem G3{p:Prop}(h:p:=by rw [dl];exact Nx _ _ _ (Ja bZ m8)):p:=h
theorem G4{p:Prop}(h:p:=by rw [hr] at h0;cases h0):p:=h
theorem G5{p:Prop}(h:p:=by rw [eZ.out,Jce,if_neg (fun he=>hy (by ext1;exact he))]):p:=h
theorem G6{p:Prop}(h:p:=by rw [Nk,Y4];exact ae):p:=h
theorem G7{p:Prop}(h:p:=by rw [Nat.zero_add];exact HZ.out i hi):p:=h
theorem G8{p:Prop}(h:p:=by rw [hV];exact Jc (Nt) _):p:=h
theorem Da{p:Prop}(h:p:=by have:=(ae.lt b hb).1;omega):p:=h
theorem Db{p:Prop}(h:p:=by injection hk with hk;omega):p:=h
theorem Dc{p:Prop}(h:p:=by rw [<-HR.out];congr 1;omega):p:=h
theorem Dd{p:Prop}(h:p:=by unfold wrap64 wrap32;omega):p:=h
theorem De{p:Prop}(h:p:=by have:=(h.own.lt b he.symm).1;omega):p:=h
theorem Df{p:Prop}(h:p:=by injection hk with hk;exact hk.symm):p:=h
theorem Dg{p:Prop}(h:p:=by rw [ij];exact(Nat.min_self _).symm):p:=h
theorem Dj{p:Prop}(h:p:=by cases gk <;> simp [Zb,am]):p:=h
theorem Dk{p:Prop}(h:p:=by simp [cdC,Value.oneCell']):p:=h
theorem Dl{p:Prop}(h:p:=by simp [vaC,Value.oneCell']):p:=h
theorem Dm{p:Prop}(h:p:=by injection aY with aY;injection aY):p:=h
theorem Dn{p:Prop}(h:p:=by rw [ByteArray.size_extract];omega):p:=h
theorem Do{p:Prop}(h:p:=by simpa using hx):p:=h
theorem Dp{p:Prop}(h:p:=by have:=h3 b hb;simp at this;omega):p:=h
theorem Dq{p:Prop}(h:p:=by rw [Bool.false_and];exact HR.out):p:=h
theorem Dr{p:Prop}(h:p:=by rw [bt];simp):p:=h
theorem Ds{p:Prop}(h:p:=by have:=hb.size;omega):p:=h
theorem Dt{p:Prop}(h:p:=by rw [ku.out,<-aa];rfl):p:=h
theorem Du{p:Prop}(h:p:=by simpa [Ya] using hj):p:=h
theorem Dv{p:Prop}(h:p:=by rw [Nat.pow_succ];omega):p:=h
theorem Dw{p:Prop}(h:p:=by have:=aG.size;simpa using this):p:=h
theorem Dy{p:Prop}(h:p:=by simp [setBlock]):p:=h
theorem Dz{p:Prop}(h:p:=by rw [bL.out,iz.out];rfl):p:=h
theorem D0{p:Prop}(h:p:=by rw [hV];exact Jc bV1 _):p:=h
theorem D5{p:Prop}(h:p:=by rw [hV];exact Jc bV2 _):p:=h
theorem D6{p:Prop}(h:p:=by rw [hd];rfl):p:=h
theorem D7{p:Prop}(h:p:=by rw [wD];simpa using hw):p:=h
theorem D8{p:Prop}(h:p:=by simp [Ex.OK,Ex.OKL, *]):p:=h
theorem D9{p:Prop}(h:p:=by rw [Nk];omega):p:=h
theorem Sb{p:Prop}(h:p:=by rw [Kw];simpa [vaC] using hj):p:=h
theorem Sc{p:Prop}(h:p:=by rw [List.drop_zero];exact HA):p:=h
theorem Sd{p:Prop}(h:p:=by rw [Nat.pow_succ] at h;omega):p:=h
theorem Se{p:Prop}(h:p:=by simpa using dj):p:=h
theorem Sf{p:Prop}(h:p:=by simpa using eD):p:=h
theorem Sg{p:Prop}(h:p:=by unfold maxLen;show 0<=_;omega):p:=h
theorem Si{p:Prop}(h:p:=by have:=(hU.out b hb).1;omega):p:=h
theorem Sj{p:Prop}(h:p:=by intro i;unfold K4;simp [hk]):p:=h
theorem Sk{p:Prop}(h:p:=by rw [IntKind.wrap_i64];omega):p:=h
theorem Sl{p:Prop}(h:p:=by rw [hY2];exact Koj hb _ _ _):p:=h
theorem Sm{p:Prop}(h:p:=by rw [vC.out];exact ao):p:=h
theorem Sn{p:Prop}(h:p:=by rw [hX];exact Koj hb _ _ _):p:=h
theorem So{p:Prop}(h:p:=by rw [Zr];rfl):p:=h
theorem Sp{p:Prop}(h:p:=by have:=cM.size;omega):p:=h
theorem Sq{p:Prop}(h:p:=by have:=hm28.X0;omega):p:=h
theorem Sr{p:Prop}(h:p:=by rw [ag];exact HP0.out _ _):p:=h
theorem Ss{p:Prop}(h:p:=by show b≠Wa.heap.size;omega):p:=h
theorem Su{p:Prop}(h:p:=by simp [Je];omega):p:=h
theorem Sw{p:Prop}(h:p:=by have:=hj.out;omega):p:=h
theorem Sy{p:Prop}(h:p:=by rw [pS.out];decide):p:=h
theorem Sz{p:Prop}(h:p:=by rw [sd];simp):p:=h
theorem S0{p:Prop}(h:p:=by simp [hu]):p:=h
theorem S3{p:Prop}(h:p:=by rw [Keq];omega):p:=h
theorem S4{p:Prop}(h:p:=by simpa using h3):p:=h
theorem S5{p:Prop}(h:p:=by simpa using hf):p:=h
theorem S6{p:Prop}(h:p:=by rw [sd];rfl):p:=h
theorem S7{p:Prop}(h:p:=by rw [ag];omega):p:=h
theorem S8{p:Prop}(h:p:=by rw [HV.out];simp):p:=h
theorem S9{p:Prop}(h:p:=by rw [hV];exact Jb):p:=h
theorem Ta{p:Prop}(h:p:=by rw [hv];simp [*]):p:=h
theorem Tb{p:Prop}(h:p:=by rw [xX];exact Jb):p:=h
theorem Tc{p:Prop}(h:p:=by rw [<-HR.out,Jhm]):p:=h
theorem Td{p:Prop}(h:p:=by rw [dq];simp):p:=h
theorem Te{p:Prop}(h:p:=by
 by_cases h1:e1=0
 ·have hv:R=e2:=by rw [hR,if_neg (fun h=>h h1)]
  clear hR;subst h1;have HV:=Nf hv;clear hv
  go_enter Tryz.func14,Tryz.ntmps14
  go_upto_region 15 with (first|(go_at_call 32;go_loud (refine(HB1.out _ Jb).mono ?_;rintro r w1 ⟨rfl,ac⟩)))
  refine Jo fun W0 ag=>?_;have aC:=Nd w W0 Uz;have z0:=Nb W0 w.heap.size 0 (.int .u32 m.ver) (by rw [ag];exact Ja ac Uc)
  have z1:=Nb W0 w.heap.size 1 (.int .u32 m.fro) (by rw [ag];exact Ja ac Uc)
  have z2:=Na W0 w.heap.size 2 m.eld (by rw [ag];exact Ja ac Uc)
  have z3:=Na W0 w.heap.size 3 m.fr.s (by rw [ag];exact Ja ac Uc)
  have z4:=Na W0 w.heap.size 4 m.fr.o (by rw [ag];exact Ja ac Uc)
  have z5:=Na W0 w.heap.size 5 m.fr.n (by rw [ag];exact Ja ac Uc)
  have z6:=Na W0 w.heap.size 6 m.fr.i (by rw [ag];exact Ja ac Uc)
  have z7:=Na W0 w.heap.size 7 m.fr.u (by rw [ag];exact Ja ac Uc)
  have z8:=Nb W0 w.heap.size 8 (.slice A1 m.first.length c1) (by rw [ag];exact Ja ac Uc)
  have z9:=Nb W0 w.heap.size 9 (.slice A2 m.step.length c2) (by rw [ag];exact Ja ac Uc)
  have z10:=Nb W0 w.heap.size 10 (.slice A3 m.move.length c3) (by rw [ag];exact Ja ac Uc)
  have z11:=Na W0 w.heap.size 11 m.sf (by rw [ag];exact Ja ac Uc)
  have z12:=Na W0 w.heap.size 12 m.mf (by rw [ag];exact Ja ac Uc)
  have hS:∀w',Below W0.heap.size W0 w'->w'.cell? ⟨w.heap.size,0,none⟩=some (.int .u32 m.ver)/\w'.cell? ⟨w.heap.size,1,none⟩=some (.int .u32 m.fro)/\w'.cell? ⟨w.heap.size,2,none⟩=some (.int .i64 m.eld)/\w'.cell? ⟨w.heap.size,3,none⟩=some (.int .i64 m.fr.s)/\w'.cell? ⟨w.heap.size,4,none⟩=some (.int .i64 m.fr.o)/\w'.cell? ⟨w.heap.size,5,none⟩=some (.int .i64 m.fr.n)/\w'.cell? ⟨w.heap.size,6,none⟩=some (.int .i64 m.fr.i)/\w'.cell? ⟨w.heap.size,7,none⟩=some (.int .i64 m.fr.u)/\w'.cell? ⟨w.heap.size,8,none⟩=some (.slice A1 m.first.length c1)/\w'.cell? ⟨w.heap.size,9,none⟩=some (.slice A2 m.step.length c2)/\w'.cell? ⟨w.heap.size,10,none⟩=some (.slice A3 m.move.length c3)/\w'.cell? ⟨w.heap.size,11,none⟩=some (.int .i64 m.sf)/\w'.cell? ⟨w.heap.size,12,none⟩=some (.int .i64 m.mf):=fun w' hb=>⟨Ja hb z0,Ja hb z1,Ja hb z2,Ja hb z3,Ja hb z4,Ja hb z5,Ja hb z6,Ja hb z7,Ja hb z8,Ja hb z9,Ja hb z10,Ja hb z11,Ja hb z12⟩;have HS:=Nf hS;have ar:=hS W0.drew (Jh (Nt));clear ag hS z0 z1 z2 z3 z4 z5 z6 z7 z8 z9 z10 z11 z12;refine Kd (fun w'=>w'.cell? ⟨w.heap.size,0,none⟩=some (.int .u32 m.ver)/\w'.cell? ⟨w.heap.size,1,none⟩=some (.int .u32 m.fro)/\w'.cell? ⟨w.heap.size,2,none⟩=some (.int .i64 m.eld)/\w'.cell? ⟨w.heap.size,3,none⟩=some (.int .i64 m.fr.s)/\w'.cell? ⟨w.heap.size,4,none⟩=some (.int .i64 m.fr.o)/\w'.cell? ⟨w.heap.size,5,none⟩=some (.int .i64 m.fr.n)/\w'.cell? ⟨w.heap.size,6,none⟩=some (.int .i64 m.fr.i)/\w'.cell? ⟨w.heap.size,7,none⟩=some (.int .i64 m.fr.u)/\w'.cell? ⟨w.heap.size,8,none⟩=some (.slice A1 m.first.length c1)/\w'.cell? ⟨w.heap.size,9,none⟩=some (.slice A2 m.step.length c2)/\w'.cell? ⟨w.heap.size,10,none⟩=some (.slice A3 m.move.length c3)/\w'.cell? ⟨w.heap.size,11,none⟩=some (.int .i64 m.sf)/\w'.cell? ⟨w.heap.size,12,none⟩=some (.int .i64 m.mf)) 7 1 Ue Gp ?_;simp only [List.size_toArray,Nl,Nm,Nat.zero_add,Nat.reduceAdd];refine Ji 0 ar ?_;refine Ji 1 ar ?_;refine Ji 2 ar ?_;refine Ji 4 ar ?_;refine Ji 5 ar ?_;refine Kb 3 ?_;refine Jj fun K hK=>?_;go_simp;refine(HMV.out _).mono ?_;rintro r w2 ⟨rfl,aq⟩;dsimp only;have cF:=Nd W0 w2 (Jd (Jh (Nt)) aq);refine hK _ _ ⟨HS.out w2 cF,?_⟩;clear hK K
  try simp only [Act.put,sa1,sa2,sa3]
  refine Kb 6 ?_;refine Jj fun K hK=>?_;go_simp;refine(HB2.out _ (Jd aC cF)).mono ?_;rintro r w3 ⟨rfl,aM⟩;dsimp only;have cZ:=Nd W0 w3 (Jd cF aM);refine hK _ _ ⟨HS.out w3 cZ,?_⟩;clear hK K
  try simp only [Act.put,sa1,sa2,sa3]
  refine Kh Ue ?_;refine Qx 7 ?_;refine Jj fun K hK=>?_;go_simp;refine hK _ _ ?_;clear hK K
  try simp only [Act.put,sa1,sa2,sa3]
  refine Ki Ue ?_
  go_wp2_with fail
  go_ret;exact⟨Jm HV.out.symm,Jd aC cZ⟩
 ·have hv:R=e1:=by rw [hR,if_pos h1]
  have t5:(e1 != 0)=true:=Lk;clear hR h1;have HV:=Nf hv;clear hv
  go_enter Tryz.func14,Tryz.ntmps14
  go_wp2_with (first|(go_at_call 32;go_loud (refine(HB1.out _ Jb).mono ?_;rintro r w1 ⟨rfl,ac⟩)))
  go_ret;exact⟨Jm HV.out.symm,Jb⟩):p:=h
theorem Tf{p:Prop}(h:p:=by
 have bk:k=p.locals.length:=Ua;have dz:k<=1000000:=Ua;rw [bk,Nn,Xr] at aa;have HS:=Nf aa;clear aa bk
 go_wp2_with fail
 go_loopw [4,51] (fun o i wr=>∃(k:Nat) (s:ByteArray),k<=p.eqs.length/\i = .int .i64 k/\o = .string s/\s.size<=400000000+20000 * k/\Zs s (p.eqs.drop k)=Zs (sx ++ ⟨#[108,101,116,10]⟩) p.eqs/\Below W0.heap.size W0 wr) (fun _ i _=>p.eqs.length-(intOf i).toNat)
 case atStart=>exact⟨0,_,Np,rfl,rfl,Up,rfl,ab⟩
 case round=>
  obtain⟨k,s,hk,rfl,rfl,rV,aa,ab⟩:=hrel;have hc:=Jg ab;have bu:=ab.size
  by_cases am:k<p.eqs.length
  ·obtain⟨q,hx,-,hd⟩:=Kl am;obtain⟨b,off,B1,n1,B2,n2,rfl,aH,⟨g0,g1,g2,g3,g4,g5,g6,g7,g8,g9,s1,s2⟩⟩:=(bT.later ab).get hx;rw [hd,Zs,Jhz] at aa;obtain⟨qL,cM,ju,ji,cH⟩:=Jaq (qu.out q (Ni hx));have cE:=Ex.showB_size q.e cM;have bY:=fun W h=>Jhg q.e cM Ua B2 n2 W (s2.later h);have vU:=Nf ji;clear ji;have tE:=Nf cM;clear cM;unfold exV at bY
   rcases cH with cH|cH|cH
   ·rw [if_neg Ua,if_neg Ua] at aa;have q1:(q.delay == 1)=false:=Mi;have q2:(q.delay == 2)=false:=Mi;clear cH;have HR:=Nf aa;clear aa hd hx
    go_wp2_with (first|(go_at_call 25;refine mo (bY _ Jb) fun w1 ac ak af bV=>?_;(try simp at af)))
    go_roundw
    case rel=>exact⟨k+1,_,Ua,Uw,rfl,Up,HR.out,Jb⟩
    case measure=>simp [intOf];omega
   ·rw [if_pos cH] at aa;have q1:(q.delay == 1)=true:=Mi;have q2:(q.delay == 2)=false:=Mi;obtain⟨jo,eh⟩:=vU.out cH;have rT:=Ex.showB_size q.first jo;have ee:=fun W h=>Jhg q.first jo Ua B1 n1 W (s1.later h);unfold exV at ee;have HFF:=Nf jo;clear jo;clear cH;have HR:=Nf aa;clear aa hd hx
    go_wp2_with (first|(go_at_call_of 25 B1;refine mo (ee _ Jb) fun w1 ac ak af bV=>?_;(try simp at af);(try have cA:b<w1.heap.size:=by omega))|(go_at_call_of 25 B2;refine mo (bY _ Jb) fun w1 ac ak af bV=>?_;(try simp at af);(try have cA:b<w1.heap.size:=by omega)))
    go_roundw
    case rel=>exact⟨k+1,_,Ua,Uw,rfl,Up,HR.out,Jb⟩
    case measure=>simp [intOf];omega
   ·rw [if_neg Ua,if_pos cH] at aa;have q1:(q.delay == 1)=false:=Mi;have q2:(q.delay == 2)=true:=Mi;clear cH;have HR:=Nf aa;clear aa hd hx
    go_wp2_with (first|(go_at_call 25;refine mo (bY _ Jb) fun w1 ac ak af bV=>?_;(try simp at af)))
    go_roundw
    case rel=>exact⟨k+1,_,Ua,Uw,rfl,Up,HR.out,Jb⟩
    case measure=>simp [intOf];omega
  ·have bk:k=p.eqs.length:=Ua;have dU:k<=1000000:=Ua;rw [bk,Nn,Zs] at aa;have bH:Jal p=s ++ ⟨#[116,101,108,10]⟩:=by rw [HPB.out,vT.out,<-HS.out,<-aa]
   have iy:(Jal p).size=s.size+4:=by rw [bH,Kq];rfl
   clear bk aa
   by_cases dP:4096<s.size+4
   ·have hv:K5 p=3:=by rw [HV.out,if_pos Ua]
    have hs:X8 p=⟨#[]⟩:=by unfold X8;rw [hv];rfl
    have iz:=Nf hs;clear hs;have bL:=Nf hv;clear hv bH iy;have jc:(4096:Int)<s.size+4:=Ua
    go_wp2_with fail
    go_ret2
    exact⟨Dz,Jb⟩
   ·have hv:K5 p=0:=by rw [HV.out,if_neg Ua]
    have hs:X8 p=s ++ ⟨#[116,101,108,10]⟩:=by unfold X8;rw [hv,if_pos rfl,bH]
    have iz:=Nf hs;clear hs;have bL:=Nf hv;clear hv bH iy;have jc:¬(4096:Int)<s.size+4:=Ua
    go_wp2_with fail
    go_ret2
    exact⟨Dz,Jb⟩):p:=h
theorem Tg{p:Prop}(h:p:=by
 have HV:=Nf hv;clear hv
 go_wp2_with fail
 go_loopw [6,37] (fun n i wr=>∃(k m:Nat),k<=(d).size/\i = .int .i64 k/\n = .int .i64 m/\m<10 ^ k/\Kee m ((d).data.toList.drop k)=Kee 0 (d).data.toList/\wr=w) (fun _ i _=>(d).size-(intOf i).toNat)
 case atStart=>exact⟨0,0,Np,rfl,rfl,Uh,rfl,rfl⟩
 case round=>
  obtain⟨k,m,hk,rfl,rfl,hm,aa,rfl⟩:=hrel;have xj:10 ^ k<=100000000000:=Nat.pow_le_pow_right (n:=10) Ua (show k<=11 by omega)
  by_cases am:k<(d).size
  ·rw [Kg4 am,Kee] at aa;have el:(d)[k].toNat<256:=UInt8.toNat_lt _;have hki:(k:Int)<((d).size:Int):=Ua
   by_cases c1:((d)[k].toNat:Int)<48
   ·rw [if_pos c1] at aa;have hv:=HV.out;rw [<-aa] at hv;have bL:=Nf hv;clear hv aa HV;have d1:decide (((d)[k].toNat:Int)<48)=true:=Ff
    go_wp2_with fail
    refine Nv (v:= .tuple #[.int .i32 (0),.bool false]) Uq rfl ⟨Kd3 ?_,rfl⟩;exact bL.out.symm
   ·rw [if_neg c1] at aa;have d1:decide (((d)[k].toNat:Int)<48)=false:=Ff
    by_cases c2:57<((d)[k].toNat:Int)
    ·rw [if_pos c2] at aa;have hv:=HV.out;rw [<-aa] at hv;have bL:=Nf hv;clear hv aa HV;have d2:decide (57<((d)[k].toNat:Int))=true:=Fg
     go_wp2_with fail
     refine Nv (v:= .tuple #[.int .i32 (0),.bool false]) Uq rfl ⟨Kd3 ?_,rfl⟩;exact bL.out.symm
    ·rw [if_neg c2] at aa;have d2:decide (57<((d)[k].toNat:Int))=false:=Fg;have HR:=Nf aa;clear aa
     go_wp2_with fail
     go_roundw
     case rel=>exact⟨k+1,10 * m+((d)[k].toNat-48),Ua,Uw,Uw,Dv,Dc,Fq⟩
     case measure=>simp [intOf];omega
  ·obtain rfl:k=(d).size:=Ua;rw [List.drop_eq_nil_of_le Uh,Kee] at aa;have hv:=HV.out;rw [<-aa] at hv;dsimp only at hv;clear HV aa
   by_cases dV : -2147483648<=(-1) * (m:Int)/\(-1) * (m:Int)<=2147483647
   ·rw [if_pos dV] at hv;have hw:wrap32 (-(m:Int))=(-(m:Int)):=Ft;have HV:=Nf hv;clear hv
    go_wp2_with fail
    refine Nv (v:= .tuple #[.int .i32 ((-(m:Int))),.bool true]) Uq rfl ⟨Kd3 ?_,rfl⟩;rw [HV.out]
    congr 1
    omega
   ·rw [if_neg dV] at hv;have hw:wrap32 (-(m:Int))≠(-(m:Int)):=Ft;have wD:wrap64 (wrap32 (-(m:Int)))=wrap32 (-(m:Int)):=Dd;have sh:(wrap64 (wrap32 (-(m:Int))) != (-(m:Int)))=true:=D7;have HV:=Nf hv;clear hv hw wD
    go_wp2_with fail
    refine Nv (v:= .tuple #[.int .i32 (0),.bool false]) Uq rfl ⟨Kd3 ?_,rfl⟩;exact HV.out.symm):p:=h
theorem Th{p:Prop}(h:p:=by
 have HV:=Nf hv;clear hv
 go_wp2_with fail
 go_loopw [6,37] (fun n i wr=>∃(k m:Nat),k<=(s).size/\i = .int .i64 k/\n = .int .i64 m/\m<10 ^ k/\Kee m ((s).data.toList.drop k)=Kee 0 (s).data.toList/\wr=w) (fun _ i _=>(s).size-(intOf i).toNat)
 case atStart=>exact⟨0,0,Np,rfl,rfl,Uh,rfl,rfl⟩
 case round=>
  obtain⟨k,m,hk,rfl,rfl,hm,aa,rfl⟩:=hrel;have xj:10 ^ k<=100000000000:=Nat.pow_le_pow_right (n:=10) Ua (show k<=11 by omega)
  by_cases am:k<(s).size
  ·rw [Kg4 am,Kee] at aa;have el:(s)[k].toNat<256:=UInt8.toNat_lt _;have hki:(k:Int)<((s).size:Int):=Ua
   by_cases c1:((s)[k].toNat:Int)<48
   ·rw [if_pos c1] at aa;have hv:=HV.out;rw [<-aa] at hv;have bL:=Nf hv;clear hv aa HV;have d1:decide (((s)[k].toNat:Int)<48)=true:=Ff
    go_wp2_with fail
    refine Nv (v:= .tuple #[.int .i32 (0),.bool false]) Uq rfl ⟨Kd3 ?_,rfl⟩;exact bL.out.symm
   ·rw [if_neg c1] at aa;have d1:decide (((s)[k].toNat:Int)<48)=false:=Ff
    by_cases c2:57<((s)[k].toNat:Int)
    ·rw [if_pos c2] at aa;have hv:=HV.out;rw [<-aa] at hv;have bL:=Nf hv;clear hv aa HV;have d2:decide (57<((s)[k].toNat:Int))=true:=Fg
     go_wp2_with fail
     refine Nv (v:= .tuple #[.int .i32 (0),.bool false]) Uq rfl ⟨Kd3 ?_,rfl⟩;exact bL.out.symm
    ·rw [if_neg c2] at aa;have d2:decide (57<((s)[k].toNat:Int))=false:=Fg;have HR:=Nf aa;clear aa
     go_wp2_with fail
     go_roundw
     case rel=>exact⟨k+1,10 * m+((s)[k].toNat-48),Ua,Uw,Uw,Dv,Dc,Fq⟩
     case measure=>simp [intOf];omega
  ·obtain rfl:k=(s).size:=Ua;rw [List.drop_eq_nil_of_le Uh,Kee] at aa;have hv:=HV.out;rw [<-aa] at hv;dsimp only at hv;clear HV aa
   by_cases dV : -2147483648<=1 * (m:Int)/\1 * (m:Int)<=2147483647
   ·rw [if_pos dV] at hv;have hw:wrap32 (m:Int)=(m:Int):=Ft;have HV:=Nf hv;clear hv
    go_wp2_with fail
    refine Nv (v:= .tuple #[.int .i32 ((m:Int)),.bool true]) Uq rfl ⟨Kd3 ?_,rfl⟩;rw [HV.out]
    congr 1
    omega
   ·rw [if_neg dV] at hv;have hw:wrap32 (m:Int)≠(m:Int):=Ft;have wD:wrap64 (wrap32 (m:Int))=wrap32 (m:Int):=Dd;have sh:(wrap64 (wrap32 (m:Int)) != (m:Int))=true:=D7;have HV:=Nf hv;clear hv hw wD
    go_wp2_with fail
    refine Nv (v:= .tuple #[.int .i32 (0),.bool false]) Uq rfl ⟨Kd3 ?_,rfl⟩;exact HV.out.symm):p:=h
theorem Ti{p:Prop}(h:p:=by
 rw [ek] at aa
 cases b4
 ·replace aa:(false && (List.drop (k+1) p.eqs).all eqB)=Qw p:=U6;have HR:=Nf aa;clear aa hd hx
  go_wp2_with (first|(go_at_call 47;refine mo (Qt _ _) fun w1 ac ak af bV=>?_;(try simp at af))|(go_at_call 21;refine mo (aB _ Jb) fun w1 ac ak af bV=>?_;(try simp at af))|(go_at_call 49;refine mo (cU _ Jb) fun w1 ac ak af bV=>?_;(try simp at af))|(go_at_call 50;refine mo (bF _ Jb) fun w1 ac ak af bV=>?_;(try simp at af)))
  go_roundw
  case rel=>exact⟨k+1,_,Ua,Uw,rfl,HR.out,Jb⟩
  case measure=>simp [intOf];omega
 cases hn:Kz q.name
 ·rw [hn] at aa;replace aa:(false && (List.drop (k+1) p.eqs).all eqB)=Qw p:=U6;have HR:=Nf aa;clear aa hd hx
  go_wp2_with (first|(go_at_call 47;refine mo (Qt _ _) fun w1 ac ak af bV=>?_;(try simp at af))|(go_at_call 21;refine mo (aB _ Jb) fun w1 ac ak af bV=>?_;(try simp at af))|(go_at_call 49;refine mo (cU _ Jb) fun w1 ac ak af bV=>?_;(try simp at af))|(go_at_call 50;refine mo (bF _ Jb) fun w1 ac ak af bV=>?_;(try simp at af)))
  go_roundw
  case rel=>exact⟨k+1,_,Ua,Uw,rfl,HR.out,Jb⟩
  case measure=>simp [intOf];omega
 cases hr:(q.e.right == 0)
 ·rw [hn,hr] at aa;replace aa:(false && (List.drop (k+1) p.eqs).all eqB)=Qw p:=U6;have HR:=Nf aa;clear aa hd hx
  go_wp2_with (first|(go_at_call 47;refine mo (Qt _ _) fun w1 ac ak af bV=>?_;(try simp at af))|(go_at_call 21;refine mo (aB _ Jb) fun w1 ac ak af bV=>?_;(try simp at af))|(go_at_call 49;refine mo (cU _ Jb) fun w1 ac ak af bV=>?_;(try simp at af))|(go_at_call 50;refine mo (bF _ Jb) fun w1 ac ak af bV=>?_;(try simp at af)))
  go_roundw
  case rel=>exact⟨k+1,_,Ua,Uw,rfl,HR.out,Jb⟩
  case measure=>simp [intOf];omega
 rw [hn,hr] at aa;replace aa:(q.first.same Ex.zero && (List.drop (k+1) p.eqs).all eqB)=Qw p:=F1;have HR:=Nf aa;clear aa hd hx
 go_wp2_with (first|(go_at_call 47;refine mo (Qt _ _) fun w1 ac ak af bV=>?_;(try simp at af))|(go_at_call 21;refine mo (aB _ Jb) fun w1 ac ak af bV=>?_;(try simp at af))|(go_at_call 49;refine mo (cU _ Jb) fun w1 ac ak af bV=>?_;(try simp at af))|(go_at_call 50;refine mo (bF _ Jb) fun w1 ac ak af bV=>?_;(try simp at af)))
 go_roundw
 case rel=>exact⟨k+1,_,Ua,Uw,rfl,HR.out,Jb⟩
 case measure=>simp [intOf];omega):p:=h
theorem Tj{p:Prop}(h:p:=by
 go_wp2_with (first|(at_lookup;go_loud (refine Qh rfl (.tmp 53) (.tmp 55) 235 rfl Tryz.underlying9 Tryz.underlying235 Tryz.underlying3 (Kj _) (wa.heap.size+1) n f q.name rfl ((ej.keep1 (heap_alloc_old _ _ dW)).plain) rfl dn ?_;rw [rb.out];simp only [Option.getD_none,Option.isSome_none,Option.getD_some,Option.isSome_some]))|(go_at_call 123;go_loud (refine(Jf0 (nd q) Ar cr (wa.heap.size+1) n f _ (kq.later Jb) ((ej.keep1 (heap_alloc_old _ _ dW)).plain) lg).mono ?_;rw [HRD.out];rintro r wy ⟨rfl,gl⟩;have hcy:=Jg gl;have hfy:=Jf gl;have hzy:wr.heap.size+1<=wy.heap.size:=Gf;have hyy:=lt0 w wy;have pu:=ltA w 1 wy))|(at_builtin;go_loud (refine Z2 rfl (.tmp 81) (.tmp 83) 140 rfl wn.heap.size 3 _ 1 8 Tryz.underlying140 Zd rfl Ua (.slice B out.length bc) out.length (out.map (.int .i64)) _ 1 1 [.int .i64 (k:Int)] rfl (Js (Jy (Js (Jy iX.out dB)) gl)) rfl rfl (fun j u hj=>Lu) Vg Ua Ua Ui ?_;intro v4 w4 cj cg hor4;have kt:=Yz (Qn (Qn (Qn (Qn bB.out (Jat dB)) (World.grownBy_alloc _ _ _)) (Jat gl)) (World.grownBy_alloc _ _ _)) cg (.inr fun k hk=>(iX.out.lt k hk).1);have sS:=hm.out.keep1 (((cg.block (wa.heap.size+1) Ui (fun e=>by have:=(iX.out.lt _ e.symm).1;omega)).trans ((heap_alloc_old _ _ Ua).trans ((gl.block (wa.heap.size+1) Ui).trans (heap_alloc_old _ _ Ua)))).trans (dB.block (wa.heap.size+1) Ua));have vI:=Nd w w4 (Kou vF kt (fun b hb=>Uv) Ua);have vJ:Below (wa.heap.size+1) W0 w4:=Kou vG kt (fun b hb=>Uv) Ua;have wA:=Jdu vJ;have qS:wn.heap.size<=w4.heap.size:=kt.size;have gq4:=(bT.later vI).nameCell HX.out;obtain⟨A4',cv4,rfl,it,iu⟩:=Jv cj))|(at_delete;go_loud (refine Jjl rfl (.tmp 85) (.tmp 91) 235 rfl Tryz.underlying9 Tryz.underlying235 (wa.heap.size+1) n f (c+1) q.name rfl sS rfl dn ?_;intro w5 c5 hm5 vL eT;rw [rb.out] at vL;simp only [Option.isSome_some,if_true] at vL;simp only [Act.put])))
 go_roundw
 case rel=>
  obtain rfl:c5=c:=Ua;exact⟨_,Jck f q.name,A4',cv4,out ++ [(k:Int)],Ui,Uh,Nf hm5,HV,Nf (by rw [List.map_append,Nk];exact cj.kept eT (Jq7 cj.lt Ua)),Nf (Qn kt eT)⟩
 case measure=>simp [Jfh];try omega):p:=h
theorem Tl{p:Prop}(h:p:=by
 go_enter Tryz.func142,Tryz.ntmps142
 go_wp2_with (first|(go_at_call 141;go_loud (refine(eY _ Jb).mono ?_;rw [lv.out];rintro r wh ⟨rfl,dX⟩;have fJ:=Jg dX;have nX:w.heap.size+1<=wh.heap.size:=(by have:=dX.size;simpa using this);have iZ:=lt0 w wh)))
 refine Jo fun W0 ag=>?_;have ax:=Nd w W0 Uz;clear ag
 go_loopw [18] (fun i wr=>∃k:Nat,k<=e.sub.length/\i = .int .i64 k/\Hid (Ex.tornL (onM f) (e.sub.drop k)=R)/\Below w.heap.size w wr) (fun i _=>e.sub.length-(intOf i).toNat)
 case atStart=>exact⟨0,Np,rfl,HB,ax⟩
 case round=>
  obtain⟨k,hk,rfl,aa,ab⟩:=hrel;have bu:=ab.size
  by_cases am:k<e.sub.length
  ·have hx:e.sub[k]?=some e.sub[k]:=Ng am;have aj:e.sub[k]∈e.sub:=Nj am;have hd:e.sub.drop k=e.sub[k] :: e.sub.drop (k+1):=No am;generalize e.sub[k]=x at hx aj hd;obtain⟨b,off,A',cap',rfl,c0,c1,c2,c3,hs⟩:=(he.later ab).get hx;have ihx:=ih x aj;have gW:=Q9 hf x aj;have jz:=Ex.OKL_mem hoks x aj;have hxz:x.size<=1000000:=by have:=Ex.size_mem _ _ _ hx;omega
   have hr:=aa.out;rw [hd,Ex.tornL] at hr;clear hd hx aj aa
   cases dC:x.torn (onM f)
   ·rw [dC,Bool.false_or] at hr;have gg:=Nf dC;have HR:=Nf hr;clear dC hr
    go_wp2_with (first|(go_at_call 142;go_loud (refine(ihx A' cap' _ (hs.later Jb) gW jz hxz (hm.bel Jb)).mono ?_;rw [gg.out];rintro r w1 ⟨rfl,ac⟩)))
    go_roundw
    case rel=>exact⟨k+1,Ua,Uw,HR,Jb⟩
    case measure=>simp [intOf];try omega
   ·rw [dC,Bool.true_or] at hr;have gg:=Nf dC;have HR:=Nf hr;clear dC hr
    go_wp2_with (first|(go_at_call 142;go_loud (refine(ihx A' cap' _ (hs.later Jb) gW jz hxz (hm.bel Jb)).mono ?_;rw [gg.out];rintro r w1 ⟨rfl,ac⟩)))
    go_ret;exact⟨Jk HR.out,Jb⟩
  ·obtain rfl:k=e.sub.length:=Ua;have hr:=aa.out;rw [Nn,Ex.tornL] at hr;have HR:=Nf hr;clear hr aa
   go_wp2_with fail
   go_ret;exact⟨Jk HR.out,Jb⟩):p:=h
theorem Tm{p:Prop}(h:p:=by
 obtain⟨k,V,l2,d2,n2,N2,hk,rfl,aa,cV,ch,dK,ac,aq,aM⟩:=hrel;have cX:=Nd w0 wr (Jd2 (base:=base) dZ dK m1 m2 (fun b hb=>Si));have hkz:=dK.size;have hbsz:=cV.size
 by_cases am:k<e.sub.length
 ·have hx:e.sub[k]?=some e.sub[k]:=Ng am;have aj:e.sub[k]∈e.sub:=Nj am;have hd:e.sub.drop k=e.sub[k] :: e.sub.drop (k+1):=No am;generalize e.sub[k]=x at hx aj hd;obtain⟨b,off,A',cap',rfl,x0,x1,x2,x3,hs⟩:=he.get hx;have x0':=Ja cX x0;have x1':=Ja cX x1;have x2':=Ja cX x2;have x3':=Ja cX x3;have hwk:=cV.walk;unfold Jg0 at hwk;have hbwz:bw<wr.heap.size:=Ua;rw [hd,Ex.namedL] at aa;rw [hd,Ex.sizeL] at ac aq aM;have jV:=Ex.named_len x l2;have az:=fun W' (lE:Below wr.heap.size wr W')=>ih x aj A' cap' hs W' V l2 d2 n2 N2 (cX.trans (lE.mono cX.size)) (cV.keep (fun k hk=>lE.block k hk) lE.size) Ua Ua Ua;have cJ:=Nf cV;have HR:=Nf aa;have fO:=Nf ch;have jy:=Nf dK;clear aa hd hx x0 x1 x2 x3 ch dK cV
  go_wp2_with (first|(go_at_call 147;go_loud (refine(az _ Jb).mono ?_;rintro r w3 ⟨rfl,⟨v3,d3,n3,ft,sR,fv⟩,ja⟩)))
  go_roundw
  case rel=>
   have kI:=ja.size;refine⟨k+1,v3,x.named l2,d3,n3,N2+x.size,Ua,Uw,HR.out,ft,?_,?_,Ua,Ua,Ua⟩
   ·rcases fv with h3|h3
    ·rw [h3];exact fO.out
    ·exact .inr fun b hb=>Dp
   ·refine jy.out.trans (Chg.trans (Chg.bel (Jc (Nt) _)) ja (.inl rfl)) ?_;exact fO.out
  case measure=>simp [intOf];omega
 ·obtain rfl:k=e.sub.length:=Ua;rw [Nn,Ex.namedL] at aa;rw [Nn,Ex.sizeL] at ac aq aM;subst aa;have cJ:=Nf cV;have fO:=Nf ch;have jy:=Nf dK;clear ch dK cV
  go_wp2_with fail
  go_end0
  exact⟨rfl,⟨V,d2,n2,⟨cJ.out.seen,cJ.out.map,cJ.out.out,cJ.out.outf,cJ.out.walk,cJ.out.own,Jg6 cJ.out.cnt Ua,cJ.out.size⟩,Ua,fO.out⟩,jy.out⟩):p:=h
theorem Tn{p:Prop}(h:p:=by
 obtain⟨k,n2,cnt2,f2,l2,hk,rfl,pX,gI,aa,qW,bB⟩:=hrel;have bu:=bB.out.size;have bV:=ltA W 1 wr;have gB:=Nd w0 W1 (Kou dZ kX.out (fun b hb=>Uv) dZ.size);have aC:=Nd w0 wr (Kou gB bB.out (fun b hb=>Uv) gB.size);have d0':=Jr (a:=⟨W.heap.size+1,0,none⟩) (bB.out.block (W.heap.size+1) Ua Ui) d0;have d1':=Jr (a:=⟨W.heap.size+1,1,none⟩) (bB.out.block (W.heap.size+1) Ua Ui) d1
 by_cases am:k<e.sub.length
 ·have hx:e.sub[k]?=some e.sub[k]:=Ng am;have aj:e.sub[k]∈e.sub:=Nj am;have hd:e.sub.drop k=e.sub[k] :: e.sub.drop (k+1):=No am;generalize e.sub[k]=x at hx aj hd;obtain⟨b,off,A',cap',rfl,c0,c1,c2,c3,hs⟩:=he.get hx;have c0':=Ja aC c0;have c1':=Ja aC c1;have c2':=Ja aC c2;have c3':=Ja aC c3;have hr:=aa.out;rw [hd,Ex.arrsL,lD] at hr;rw [hd,Ex.sizeL] at qW;have az:=fun W' (gr:Below wr.heap.size wr W')=>ih x aj A' cap' (ck,cs) hs lq W' n2 f2 cnt2 l2 (aC.trans (gr.mono aC.size)) (pX.out.bel gr) gI.out Ua;unfold exV kvC at az;dsimp only at az;have HR:=Nf hr;clear hr aa hd hx c0 c1 c2 c3
  go_wp2_with (first|(go_at_call 129;go_loud (refine(az _ Jb).mono ?_;rintro r w3 ⟨rfl,⟨n3,f3,cnt3,kV,sR,iT⟩,bJ⟩)))
  go_roundw
  case rel=>exact⟨k+1,n3,cnt3,f3,x.arrs l2 (ck,cs),Ua,Uw,Nf kV,Nf iT,HR,Ua,Nf (Kv bB.out (Kv (K0 (Jc (Nt) _)) bJ))⟩
  case measure=>simp [intOf];omega
 ·obtain rfl:k=e.sub.length:=Ua;have hr:=aa.out;rw [Nn,Ex.arrsL] at hr;rw [Nn] at qW;clear aa;have HR:=Nf hr;clear hr
  go_wp2_with fail
  go_end0
  exact⟨rfl,⟨n2,f2,cnt2,pX.out,Ua,by rw [HR.out];exact gI.out⟩,Kv kX.out bB.out⟩):p:=h
theorem To{p:Prop}(h:p:=by
 clear dD;have HV:=Nf hv;clear hv
 go_enter Tryz.func139,Tryz.ntmps139
 go_wp2_with (first|(go_at_call 148;refine(av _ Jb).mono ?_;rintro r w1 ⟨⟨v,rfl,ae⟩,ac⟩;have ⟨ak,af⟩:=aft ac;(try simp at af);(try have bV:=lt0 w w1);(try have gq:=ltA w 1 w1);(try have ow:=ltA w 2 w1);(try have ns:=lt0 wr w1);(try have nt:=ltA wr 1 w1);rw [dS] at ae;simp only [List.map_cons,List.map_nil,Nl,Nm,Nat.zero_add,Nat.reduceAdd] at ae;obtain⟨g,gc,rfl,eN,aG,bJ,cg,ah⟩:=Kc ae Ua;unfold maxLen at cg;have e0:=ah 0 _ rfl;have e1:=ah 1 _ rfl;clear ah ae)|(go_at_call 149;refine(aF _ Jb).mono ?_;rintro r w1 ⟨rfl,ac⟩;have ⟨ak,af⟩:=aft ac;(try simp at af);(try have bV:=lt0 w w1);(try have gq:=ltA w 1 w1);(try have ow:=ltA w 2 w1);(try have ns:=lt0 wr w1);(try have nt:=ltA wr 1 w1);(try have eC:=Nr aG ac.size)))
 refine Jx Ue Ue (fun bj=>?_)
 repeat (quiet_step ((go_at_call 150;exact Calls.regrown_of ((Jiz _ _ _).mono fun _ _ h=>⟨h.1,Fv⟩))))
 refine wpQuiet_nil ?_;intro wq au;replace au:=qbo au;obtain⟨au,dA,bh⟩:=au;clear bj
 (try simp at bh)
 (try have oO:=lt0 w wq);(try have nw:=ltA w 1 wq);(try have kb:=ltA w 2 wq);(try have vq:=lt0 wr wq)
 (try have uD:=Nr eC au.size)
 go_wp2_with fail
 refine Jx Ue Ue (fun bj=>?_)
 repeat (quiet_step (fail))
 refine wpQuiet_nil ?_;intro wq au;replace au:=qbo au;obtain⟨au,dA,bh⟩:=au;clear bj
 (try simp at bh)
 (try have oO:=lt0 w wq);(try have nw:=ltA w 1 wq);(try have kb:=ltA w 2 wq);(try have vq:=lt0 wr wq)
 go_wp2_with fail
 go_ret2
 exact⟨Vb,Jb⟩):p:=h
theorem Tp{p:Prop}(h:p:=by
 have HV:=Nf hv;clear hv
 go_enter Tryz.func139,Tryz.ntmps139
 go_wp2_with (first|(go_at_call 148;refine(av _ Jb).mono ?_;rintro r w1 ⟨⟨v,rfl,ae⟩,ac⟩;have ⟨ak,af⟩:=aft ac;(try simp at af);(try have bV:=lt0 w w1);(try have gq:=ltA w 1 w1);(try have ow:=ltA w 2 w1);(try have ns:=lt0 wr w1);(try have nt:=ltA wr 1 w1);rw [dS] at ae;simp only [List.map_cons,List.map_nil,Nl,Nm,Nat.zero_add,Nat.reduceAdd] at ae;obtain⟨g,gc,rfl,eN,aG,bJ,cg,ah⟩:=Kc ae Ua;unfold maxLen at cg;have e0:=ah 0 _ rfl;have e1:=ah 1 _ rfl;clear ah ae)|(go_at_call 149;refine(aF _ Jb).mono ?_;rintro r w1 ⟨rfl,ac⟩;have ⟨ak,af⟩:=aft ac;(try simp at af);(try have bV:=lt0 w w1);(try have gq:=ltA w 1 w1);(try have ow:=ltA w 2 w1);(try have ns:=lt0 wr w1);(try have nt:=ltA wr 1 w1);(try have eC:=Nr aG ac.size)))
 refine Jx Ue Ue (fun bj=>?_)
 repeat (quiet_step ((go_at_call 150;exact Calls.regrown_of ((Jiz _ _ _).mono fun _ _ h=>⟨h.1,Fv⟩))))
 refine wpQuiet_nil ?_;intro wq au;replace au:=qbo au;obtain⟨au,dA,bh⟩:=au;clear bj
 (try simp at bh)
 (try have oO:=lt0 w wq);(try have nw:=ltA w 1 wq);(try have kb:=ltA w 2 wq);(try have vq:=lt0 wr wq)
 (try have uD:=Nr eC au.size)
 go_wp2_with fail
 refine Jx Ue Ue (fun bj=>?_)
 repeat (quiet_step (fail))
 refine wpQuiet_nil ?_;intro wq au;replace au:=qbo au;obtain⟨au,dA,bh⟩:=au;clear bj
 (try simp at bh)
 (try have oO:=lt0 w wq);(try have nw:=ltA w 1 wq);(try have kb:=ltA w 2 wq);(try have vq:=lt0 wr wq)
 go_wp2_with fail
 go_ret2
 exact⟨Vb,Jb⟩):p:=h
theorem Tr{p:Prop}(h:p:=by
 have HV:=Nf hv;clear hv
 go_enter Tryz.func46,Tryz.ntmps46
 go_wp2_with (first|(go_at_call 87;refine(Jbm _ _).mono ?_;rintro r w1 ⟨rfl,rfl⟩)|(go_at_call 47;refine mo (Qt _ _) fun w1 ac ak af bV=>?_;(try simp at af)))
 go_loopw [59] (fun i wr=>∃(k:Nat),k<=e.sub.length/\i = .int .i64 k/\Ex.formedL (e.sub.drop k)=e.formed/\Below w.heap.size w wr) (fun i _=>e.sub.length-(intOf i).toNat)
 case atStart=>exact⟨0,Np,rfl,S8,Jb⟩
 case round=>
  obtain⟨k,hk,rfl,aa,ab⟩:=hrel
  by_cases am:k<e.sub.length
  ·obtain⟨x,hx,aj,hd⟩:=Kl am;obtain⟨b,off,A',cap',rfl,c0,c1,c2,c3,hs⟩:=(he.later ab).get hx;rw [hd,Ex.formedL] at aa;have ihx:=ih x aj
   cases ew:x.formed
   ·rw [ew,Bool.false_and] at aa;have HR:=Nf aa;clear aa hd hx
    go_wp2_with (go_at_call 46;refine(ihx A' cap' _ (hs.later Jb)).mono ?_;rintro r w2 ⟨rfl,aq⟩)
    go_ret;exact⟨Jk HR.out,Jb⟩
   ·rw [ew,Bool.true_and] at aa;have HR:=Nf aa;clear aa hd hx
    go_wp2_with (go_at_call 46;refine(ihx A' cap' _ (hs.later Jb)).mono ?_;rintro r w2 ⟨rfl,aq⟩)
    go_roundw
    case rel=>exact⟨k+1,Ua,Uw,HR.out,Jb⟩
    case measure=>simp [intOf];omega
  ·have bk:k=e.sub.length:=Ua;rw [bk,Nn] at aa;rw [Ex.formedL] at aa;have HR:=Nf aa;clear aa bk
   go_wp2_with fail
   go_ret;exact⟨Jk HR.out,Jb⟩):p:=h
theorem Tv{p:Prop}(h:p:=by
 refine Nv (v:= .agg #[.string nm,.slice Ai ins.length ci,.slice Ao outs.length co,.slice Al l.length cl,.slice none 0 0]) Gs rfl ?_;rw [<-HR.out];refine⟨⟨Ai,ci,Ao,co,Al,cl,rfl,Off.less (base0:=W.heap.size+1) ?_ Ua⟩,?_,?_⟩
 ·have h1:=((hoi6.grow (g':=none) (fun k h1 h2 _=>dx.block k h2 Mq) dx.size (.inl rfl))).less (show W.heap.size+1<=_ by omega);have h2:=((hoo6.grow (g':=none) (fun k h1 h2 _=>dx.block k h2 Mq) dx.size (.inl rfl))).less (show W.heap.size+1<=_ by omega);have h3:=(Kia ml.own).less (show W.heap.size+1<=_ by omega);have h4:=h1.and (h2.and h3)
  repeat (first|with_reducible exact h4|refine Kdv ?_ Ua _ _)
 ·repeat (first|with_reducible exact hp8|with_reducible refine X2.beyond ?_ Ua _ _)
 ·have hkZ:=hkXa.trans dx fun k hk hs=>hs.resolve_right Ua
  repeat (first|with_reducible exact hkZ|with_reducible refine J6.fresh ?_ Ua _ _)):p:=h
theorem Tw{p:Prop}(h:p:=by
 clear dD;have HV:=Nf hv;clear hv
 go_enter Tryz.func139,Tryz.ntmps139
 go_wp2_with (first|(go_at_call 148;refine(av _ Jb).mono ?_;rintro r w1 ⟨⟨v,rfl,ae⟩,ac⟩;have ⟨ak,af⟩:=aft ac;(try simp at af);have bV:=alt ac;rw [dS] at ae;simp only [List.map_cons,List.map_nil,Nl,Nm,Nat.zero_add,Nat.reduceAdd] at ae;obtain⟨g,gc,rfl,eN,aG,bJ,cg,ah⟩:=Kc ae Ua;unfold maxLen at cg;have e0:=ah 0 _ rfl;have e1:=ah 1 _ rfl;have e2:=ah 2 _ rfl;clear ah ae)|(go_at_call 149;refine(aF _ Jb).mono ?_;rintro r w1 ⟨rfl,ac⟩;have ⟨ak,af⟩:=aft ac;(try simp at af);have bV:=alt ac;(try have eC:=Nr aG ac.size)))
 refine Jx Ue Ue (fun bj=>?_)
 repeat (quiet_step (fail))
 refine wpQuiet_nil ?_;intro wq au;replace au:=qbo au;obtain⟨au,dA,bh⟩:=au;clear bj
 (try simp at bh)
 have oO:=alt au
 go_wp2_with fail
 go_ret2
 exact⟨Vb,Jb⟩):p:=h
theorem Tx{p:Prop}(h:p:=by
 have HV:=Nf hv;clear hv
 go_enter Tryz.func139,Tryz.ntmps139
 go_wp2_with (first|(go_at_call 148;refine(av _ Jb).mono ?_;rintro r w1 ⟨⟨v,rfl,ae⟩,ac⟩;have ⟨ak,af⟩:=aft ac;(try simp at af);have bV:=alt ac;rw [dS] at ae;simp only [List.map_cons,List.map_nil,Nl,Nm,Nat.zero_add,Nat.reduceAdd] at ae;obtain⟨g,gc,rfl,eN,aG,bJ,cg,ah⟩:=Kc ae Ua;unfold maxLen at cg;have e0:=ah 0 _ rfl;have e1:=ah 1 _ rfl;have e2:=ah 2 _ rfl;clear ah ae)|(go_at_call 149;refine(aF _ Jb).mono ?_;rintro r w1 ⟨rfl,ac⟩;have ⟨ak,af⟩:=aft ac;(try simp at af);have bV:=alt ac;(try have eC:=Nr aG ac.size)))
 refine Jx Ue Ue (fun bj=>?_)
 repeat (quiet_step (fail))
 refine wpQuiet_nil ?_;intro wq au;replace au:=qbo au;obtain⟨au,dA,bh⟩:=au;clear bj
 (try simp at bh)
 have oO:=alt au
 go_wp2_with fail
 go_ret2
 exact⟨Vb,Jb⟩):p:=h
theorem Ty{p:Prop}(h:p:=by
 clear dD;have HV:=Nf hv;clear hv
 go_enter Tryz.func139,Tryz.ntmps139
 go_wp2_with (first|(go_at_call 148;refine(av _ Jb).mono ?_;rintro r w1 ⟨⟨v,rfl,ae⟩,ac⟩;have ⟨ak,af⟩:=aft ac;(try simp at af);have bV:=alt ac;rw [dS] at ae;simp only [List.map_cons,List.map_nil,Nl,Nm,Nat.zero_add,Nat.reduceAdd] at ae;obtain⟨g,gc,rfl,eN,aG,bJ,cg,ah⟩:=Kc ae Ua;unfold maxLen at cg;have e0:=ah 0 _ rfl;have e1:=ah 1 _ rfl;clear ah ae)|(go_at_call 149;refine(aF _ Jb).mono ?_;rintro r w1 ⟨rfl,ac⟩;have ⟨ak,af⟩:=aft ac;(try simp at af);have bV:=alt ac;(try have eC:=Nr aG ac.size)))
 refine Jx Ue Ue (fun bj=>?_)
 repeat (quiet_step (fail))
 refine wpQuiet_nil ?_;intro wq au;replace au:=qbo au;obtain⟨au,dA,bh⟩:=au;clear bj
 (try simp at bh)
 have oO:=alt au
 go_wp2_with fail
 go_ret2
 exact⟨Vb,Jb⟩):p:=h
theorem Tz{p:Prop}(h:p:=by
 have HV:=Nf hv;clear hv
 go_enter Tryz.func132,Tryz.ntmps132
 go_wp2_with (first|(go_at_call 8;refine(bN _ Jb).mono ?_;rintro r wa ⟨rfl,aA⟩;have aW:=Jg aA;have bS:=Jf aA;have cN:w.heap.size+2<=wa.heap.size:=U3;have dG:=lt0 w wa;have mj:=ltA w 1 wa)|(go_at_call 118;refine(aJ _ Jb).mono ?_;rintro r wb ⟨⟨A,cap,rfl,ae⟩,aH⟩;have el:=Jg aH;have mJ:=Jf aH;have dH:=aH.size;have cA:=lt0 w wb;have mm:=ltA w 1 wb;have cR:=Ju.of_own ae)|(go_at_call 138;refine(aO _ _ _ (cR.later Jb)).mono ?_;rintro r wc ⟨⟨B,rfl,hB,kg⟩,bU⟩;have cB:=Jg bU;have eB:=Jf bU;have iG:=bU.size;have kh:=lt0 w wc;have uE:=ltA w 1 wc))
 refine Nv (v:= .agg #[.int .i64 (4),.int .i64 (0),.int .i64 (3)]) Vm rfl ⟨Ln,?_⟩;exact Km):p:=h
theorem T2{p:Prop}(h:p:=by
 have HV:=Nf hv;clear hv
 go_enter Tryz.func139,Tryz.ntmps139
 go_wp2_with (first|(go_at_call 148;refine(av _ Jb).mono ?_;rintro r w1 ⟨⟨v,rfl,ae⟩,ac⟩;have ⟨ak,af⟩:=aft ac;(try simp at af);have bV:=alt ac;rw [dS] at ae;simp only [List.map_cons,List.map_nil,Nl,Nm,Nat.zero_add,Nat.reduceAdd] at ae;obtain⟨g,gc,rfl,eN,aG,bJ,cg,ah⟩:=Kc ae Ua;unfold maxLen at cg;have e0:=ah 0 _ rfl;have e1:=ah 1 _ rfl;clear ah ae)|(go_at_call 149;refine(aF _ Jb).mono ?_;rintro r w1 ⟨rfl,ac⟩;have ⟨ak,af⟩:=aft ac;(try simp at af);have bV:=alt ac;(try have eC:=Nr aG ac.size)))
 refine Jx Ue Ue (fun bj=>?_)
 repeat (quiet_step (fail))
 refine wpQuiet_nil ?_;intro wq au;replace au:=qbo au;obtain⟨au,dA,bh⟩:=au;clear bj
 (try simp at bh)
 have oO:=alt au
 go_wp2_with fail
 go_ret2
 exact⟨Vb,Jb⟩):p:=h
theorem T4{p:Prop}(h:p:=by
 refine Kb 11 ?_;refine Jj fun K hK=>?_;go_simp;refine(kT.out _ _ (Jka _ _ _ rfl)).mono ?_;rintro r wz ⟨⟨v,rfl,ae⟩,gt⟩;dsimp only;have cF:=Nd W0 wz (Jd (Jc cT _) gt);refine hK _ _ ⟨HS.out wz cF,?_⟩;clear hK K
 try simp only [Act.put,sa1,sa2,sa3]
 have dk:=HS.out wz cF;refine Ji 12 dk ?_;refine Ji 13 dk ?_;refine Kh Ue ?_;refine Qx 14 ?_;refine Jj fun K hK=>?_;go_simp;refine hK _ _ ?_;clear hK K
 try simp only [Act.put,sa1,sa2,sa3]
 refine Qx 15 ?_;refine Jj fun K hK=>?_;go_simp;refine hK _ _ ?_;clear hK K
 try simp only [Act.put,sa1,sa2,sa3]
 refine Ki Ue ?_;have jh:=Nd w wz (Jd aC cF);have fN:=K8 ae (show w.heap.size<=_ by first|omega|(simp;omega));clear ar dr dk kT
 go_wp2_with fail
 go_ret2
 exact⟨⟨_,rfl,fN⟩,jh⟩):p:=h
theorem T5{p:Prop}(h:p:=by
 subst hz;have hv:=Jgg (c:=(ck,cs)) ho;rw [bC,bd] at hv;clear ho bC bd sq;have HV:=Nf hv;clear hv
 go_enter Tryz.func135,Tryz.ntmps135
 go_wp2_with fail
 go_region
 all_goals
  go_wp2_with fail
  refine Jx Ue Ue (fun bj=>?_)
  repeat (quiet_step ((first|(go_at_call 144;exact Calls.regrown_of (rj _ Jb)))))
  refine wpQuiet_nil ?_;intro wq au;replace au:=qbo au;obtain⟨au,dA,bh⟩:=au;clear bj
  (try simp at bh)
  (try have ox:0<wq.heap.size:=by omega);(try have lI:=ltA w 3 wq)
  go_wp2_with (first|(go_at_call 145;refine(eF _ Jb).mono ?_;rintro r w1 ⟨rfl,ac⟩;have ⟨ak,af⟩:=aft ac;(try simp at af);(try have lH:=ltA w 3 w1);(try have go:0<w1.heap.size:=by omega)))
  go_ret;exact⟨Jm HV.out.symm,Jb⟩):p:=h
theorem T6{p:Prop}(h:p:=by
 rw [if_pos eD] at aa;have hv:Qg p=(3,(k:Int),de):=Dt;have t1:(de != 0)=true:=Sf;clear aa eD;have HV:=Nf hv;clear hv
 go_wp2_with (first|(go_at_call 134;refine(ap _ Jb).mono ?_;rintro r w1 ⟨rfl,ac⟩;have ak:=Jg ac;have db:=Jf ac;have eI:=ac.size;(try simp at eI);have bV:=lt0 w w1;have gq:=ltA w 1 w1;have ow:=lt0 wr w1)|(go_at_call 135;refine(ix _ Jb).mono ?_;rintro r w2 ⟨rfl,aq⟩;have dm:=Jg aq;have gO:=Jf aq;have kG:=aq.size;(try simp at kG);have ns:=lt0 w w2;have nt:=ltA w 1 w2))
 refine Nv (v:= .agg #[.int .i64 (3),.int .i64 ((k:Int)),.int .i64 (de)]) Lt rfl ⟨Ln,?_⟩;exact Km):p:=h
theorem T7{p:Prop}(h:p:=by
 obtain⟨c,e,fr,h1,h2⟩:=cells_of_cell? h
 have hh:(W.setCell ⟨b,o,none⟩ v).heap=W.heap:=by
  unfold World.setCell;dsimp only;apply Array.ext
  ·simp
  ·intro i h3 h4;rw [Array.getElem_modify]
   split
   ·rename_i hi;subst hi;obtain⟨h5,h6⟩:=Array.getElem?_eq_some_iff.1 h1;rw [h6];simp only [Option.isSome_none,Bool.false_eq_true,if_false]
    have:c.setIfInBounds o v=c:=by
     obtain⟨h7,h8⟩:=Array.getElem?_eq_some_iff.1 h2;apply Array.ext
     ·simp
     ·intro j h9 bM;rw [Array.getElem_setIfInBounds]
      split
      ·rename_i hj;subst hj;exact h8.symm
      ·rfl
    rw [this]
   ·rfl
 unfold World.setCell at hh ⊢;dsimp only at hh;rw [hh]):p:=h
theorem T8{p:Prop}(h:p:=by
 simp [Je3,Jbl,eu] at hv;have HV:=Nf hv;clear hv
 go_enter Tryz.func139,Tryz.ntmps139
 go_wp2_with (first|(go_at_call 148;refine(av _ Jb).mono ?_;rintro r w1 ⟨⟨v,rfl,ae⟩,ac⟩;have ⟨ak,af⟩:=aft ac;(try simp at af);have bV:=alt ac;rw [dS] at ae;simp only [List.map_cons,List.map_nil,Nl,Nm,Nat.zero_add,Nat.reduceAdd] at ae;obtain⟨g,gc,rfl,eN,aG,bJ,cg,ah⟩:=Kc ae Ua;unfold maxLen at cg;have e0:=ah 0 _ rfl;clear ah ae)|(go_at_call 149;refine(aF _ Jb).mono ?_;rintro r w1 ⟨rfl,ac⟩;have ⟨ak,af⟩:=aft ac;(try simp at af);have bV:=alt ac;(try have eC:=Nr aG ac.size)))
 go_ret2
 exact⟨Vb,Jb⟩):p:=h
theorem T9{p:Prop}(h:p:=by
 rw [if_neg eD] at aa;have t1:(de != 0)=false:=Sf;have HR:=Nf aa;clear aa eD
 go_wp2_with (first|(go_at_call 134;refine(ap _ Jb).mono ?_;rintro r w1 ⟨rfl,ac⟩;have ak:=Jg ac;have db:=Jf ac;have eI:=ac.size;(try simp at eI);have bV:=lt0 w w1;have gq:=ltA w 1 w1;have ow:=lt0 wr w1)|(go_at_call 135;refine(ix _ Jb).mono ?_;rintro r w2 ⟨rfl,aq⟩;have dm:=Jg aq;have gO:=Jf aq;have kG:=aq.size;(try simp at kG);have ns:=lt0 w w2;have nt:=ltA w 1 w2))
 go_roundw
 case rel=>exact⟨k+1,Ua,Uw,HR.out,Jb⟩
 case measure=>simp [intOf];omega):p:=h
theorem Ba{p:Prop}(h:p:=by
 clear hr c1 c2;have HV:=Nf hv;clear hv
 go_enter Tryz.func95,Tryz.ntmps95
 go_wp2_with (first|(go_at_call 115;refine mo (cO _) fun w1 ac ak af bV=>?_;(try simp at af)))
 go_quiet ((go_at_call 116;exact Calls.quiet_of_same (fp _)))
 go_wp2_with fail
 refine Jo fun W1 bt=>?_;have q0:=Na W1 w.heap.size 0 op Ve;have q1:=Nb W1 w.heap.size 1 (.int .i32 n) Ve;have aC:=Nd w W1 Fz;clear bt
 go_quiet ((go_at_call 116;exact Calls.quiet_of_same (fp _)))
 go_wp2_with fail
 go_ret;exact⟨Jm HV.out.symm,Jb⟩):p:=h
theorem Bb{p:Prop}(h:p:=by
 go_enter Tryz.func83,Tryz.ntmps83
 go_wp2_with (go_at_call 85;go_loud (refine(hn _ Jb).mono ?_;rintro r w1 ⟨rfl,ac⟩;have aC:=Nd W w1 (by exact Jb);have wu:=HP.out.later aC;have dm:=wu.c2;have gO:=wu.f2;have cF:=wu.lt;have aW:=Jg ac;have bS:=Jf ac;have af:=ac.size;(try simp at af);have dG:=lt0 W w1))
 refine Nv (v:=tkV tkZ) F4 rfl ?_;rw [HV.out];exact⟨rfl,((wu.fall true).beyond4 cm _ _ _ _).alloc _,(((J6.bel (S:=fun b=>b=B) aC).setCell (b:=B) rfl _ _).fresh4 (Ns _) _ _ _ _).alloc _⟩):p:=h
theorem Bc{p:Prop}(h:p:=by
 have hv:=Jgh (c:=(ck,cs)) ho hz;have t1:(tq != 0)=true:=Mb;clear ho bC bd sq hz;have HV:=Nf hv;clear hv
 go_enter Tryz.func135,Tryz.ntmps135
 go_wp2_with fail
 go_region
 all_goals
  go_wp2_with fail
  refine Jx Ue Ue (fun bj=>?_)
  repeat (quiet_step ((first|(go_at_call 144;exact Calls.regrown_of (rj _ Jb)))))
  refine wpQuiet_nil ?_;intro wq au;replace au:=qbo au;obtain⟨au,dA,bh⟩:=au;clear bj
  (try simp at bh)
  (try have ox:0<wq.heap.size:=by omega);(try have lI:=ltA w 3 wq)
  go_wp2_with fail
  go_ret;exact⟨Jm HV.out.symm,Jb⟩):p:=h
theorem Be{p:Prop}(h:p:=by
 have h1:=Kom (z:=W.heap.size) [.string p.name,.slice A1 p.ins.length c1,.slice A2 p.outs.length c2,.slice A3 p.locals.length c3,.slice A4 p.eqs.length c4,.int .u32 M.ver,.int .u32 M.fro,.int .i64 M.eld,.int .i64 M.fr.s,.int .i64 M.fr.o,.int .i64 M.fr.n,.int .i64 M.fr.i,.int .i64 M.fr.u,.slice D1 M.first.length e1,.slice D2 M.step.length e2,.slice D3 M.move.length e3,.int .i64 M.sf,.int .i64 M.mf] 0 V (fun i hi=>G7) j u hj;rw [Nat.zero_add,<-hX] at h1;exact h1):p:=h
theorem Bh{p:Prop}(h:p:=by
 have hoy2:=(((Kdv (Kdv (Kdv (Kdv (hoy.less (show w1.heap.size+1<=_ by simp <;> omega)) (c:=w1.heap.size) Ua 6 (.int .i64 y.kind)) (c:=w1.heap.size) Ua 7 (.int .i32 y.n)) (c:=w1.heap.size) Ua 8 (.string y.name)) (c:=w1.heap.size) Ua 9 (.slice Ay y.sub.length cy)).kept Ua cu).less (show W.heap.size+1<=_ by omega));refine Off.and (Kex _ _ fun V=>Ke2 V Uo) ?_
 repeat (first|with_reducible exact hoy2|with_reducible refine Kfo ?_ _|refine Kdv ?_ Ua _ _)):p:=h
theorem Bi{p:Prop}(h:p:=by
 go_wp2_with (first|(at_lookup;go_loud (refine Qh rfl (.tmp 53) (.tmp 55) 235 rfl Tryz.underlying9 Tryz.underlying235 Tryz.underlying3 (Kj _) (wa.heap.size+1) n f q.name rfl ((ej.keep1 (heap_alloc_old _ _ dW)).plain) rfl dn ?_;rw [rb.out];simp only [Option.getD_none,Option.isSome_none,Option.getD_some,Option.isSome_some])))
 go_roundw
 case rel=>exact⟨k+1,m0,Ua,Uw,rfl,rfl,vH,Jb⟩
 case measure=>simp [intOf];try omega):p:=h
theorem Bj{p:Prop}(h:p:=by
 have HV:=Nf hv;clear hv
 go_enter Tryz.func139,Tryz.ntmps139
 go_wp2_with (first|(go_at_call 148;refine(av _ Jb).mono ?_;rintro r w1 ⟨⟨v,rfl,ae⟩,ac⟩;have ⟨ak,af⟩:=aft ac;(try simp at af);have bV:=alt ac;rw [dS] at ae)|(go_at_call 149;refine(aF _ Jb).mono ?_;rintro r w1 ⟨rfl,ac⟩;have ⟨ak,af⟩:=aft ac;(try simp at af);have bV:=alt ac;(try have eC:=Nr aG ac.size)))
 go_ret2
 exact⟨Vb,Jb⟩):p:=h
theorem Bk{p:Prop}(h:p:=by
 simp only [Bool.false_and,Bool.and_false,Bool.false_eq_true,if_false] at hR;have HV:=Nf hR;clear hR
 go_enter Tryz.func56,Tryz.ntmps56
 go_wp2_with (first|(go_at_call 94;refine mo (dV _ _ _) fun w1 ac ak af bV=>?_;(try simp at af);(try have bV:=lt0 w w1);(try have gq:=ltA w 1 w1);(try have ow:=ltA w 2 w1);(try have ns:=lt0 wr w1);(try have nt:=ltA wr 1 w1)))
 go_ret;exact⟨Jm HV.out.symm,Jb⟩):p:=h
theorem Bl{p:Prop}(h:p:=by
 have HR:=Nf aa;clear aa hd hx
 go_wp2_with (first|(go_at_call 47;refine mo (Qt _ _) fun w1 ac ak af bV=>?_;(try simp at af))|(go_at_call 21;refine mo (aB _ Jb) fun w1 ac ak af bV=>?_;(try simp at af))|(go_at_call 49;refine mo (cU _ Jb) fun w1 ac ak af bV=>?_;(try simp at af))|(go_at_call 50;refine mo (bF _ Jb) fun w1 ac ak af bV=>?_;(try simp at af)))
 go_ret;exact⟨Jk HR.out,Jb⟩):p:=h
theorem Bm{p:Prop}(h:p:=by
 have HV:=Nf hv;clear hv;unfold exV at fB gY iC ⊢
 go_enter Tryz.func21,Tryz.ntmps21
 go_wp2_with (first|(go_at_call 44;refine mo (fB _ Jb) fun w1 ac ak af bV=>?_;(try simp at af))|(go_at_call 45;refine mo (gY _ Jb) fun w1 ac ak af bV=>?_;(try simp at af))|(go_at_call 46;refine mo (iC _ Jb) fun w1 ac ak af bV=>?_;(try simp at af)))
 go_ret;exact⟨Jm HV.out.symm,Jb⟩):p:=h
theorem Bn{p:Prop}(h:p:=by
 clear ht hv
 go_enter Tryz.func85,Tryz.ntmps85
 go_wp2_with fail
 go_quiet (fail)
 go_wp2_with fail
 refine Nv (v:= .tuple #[tkV tkZ,.bool false]) (by simp [results,Tryz.results85,go_sem,tkV,tkZ, *]) rfl ⟨rfl,?_⟩;refine Ke7 _ _ _ _ ?_ (Ns _)
 first|exact J8 (Jc (Nt) _) _|exact Jh (Jc (Nt) _)|exact Jc (Nt) _):p:=h
theorem Bo{p:Prop}(h:p:=by
 rw [if_neg hd] at aa
 have bV:1<=y:=by
  rcases Nat.eq_zero_or_pos y with h0|h0
  ·subst h0;simp at cI;omega
  ·exact h0
 generalize UInt8.ofNat (48+m % 10)=d at aa bW;have HR:=Nf aa;clear aa
 go_wp2_with fail
 go_roundg y
 case measure=>omega
 case rel=>exact⟨m / 10,y,d :: ds,rfl,bV,Ui,cI,Uw,Uw,HR.out,by first|rfl|simp⟩):p:=h
theorem Bp{p:Prop}(h:p:=by
 have HV:=Nf hv;clear hv
 rcases tn with ⟨t8,t9⟩|⟨t8,t9⟩
 all_goals
  go_enter Tryz.func95,Tryz.ntmps95
  go_wp2_with (first|(go_at_call 115;refine mo (cO _) fun w1 ac ak af bV=>?_;(try simp at af)))
  go_quiet ((go_at_call 116;exact Calls.quiet_of_same (fp _)))
  go_wp2_with fail
  go_ret;exact⟨Jm HV.out.symm,Jb⟩):p:=h
theorem Bq{p:Prop}(h:p:=by
 rcases Nat.eq_zero_or_pos l.length with h0|h0
 ·obtain⟨A',c',hv,h1,h2⟩:=Jv h;injection hv with e1 e2 e3;subst e3;exact⟨h1,h2,fun hl=>absurd hl Ua⟩
 ·obtain⟨g,c',hv,_,_,h1,h2,hc⟩:=Kc h h0;injection hv with e1 e2 e3;subst e1 e3;refine⟨h1,h2,fun _=>⟨g,0,rfl,fun k s hk=>?_⟩⟩;rw [Nat.zero_add];exact hc k _ L3):p:=h
theorem Br{p:Prop}(h:p:=by
 rw [hq] at ri;clear hq;have HV:=Nf hv;clear hv
 go_enter Tryz.func133,Tryz.ntmps133
 go_wp2_with (first|(go_at_call 134;refine(ap _ Jb).mono ?_;rintro r w1 ⟨rfl,ac⟩;have ⟨ak,af⟩:=aft ac;(try simp at af);(try have go:0<w1.heap.size:=by omega)))
 go_ret;exact⟨Jm HV.out.symm,Jb⟩):p:=h
theorem Bu{p:Prop}(h:p:=by
 refine Jx Ue Ue (fun bj=>?_)
 repeat (quiet_step ((first|(go_at_call 127;exact Calls.regrown_of (hofc _ Jb)))))
 refine wpQuiet_nil ?_;intro wq au;replace au:=qbo au;obtain⟨au,dA,bh⟩:=au;clear bj
 (try simp at bh)
 have oO:=alt au
 go_wp2_with fail
 go_ret;exact⟨⟨_,rfl⟩,Jd rH au⟩):p:=h
theorem Bv{p:Prop}(h:p:=by
 clear hq;have HV:=Nf hv;clear hv
 go_enter Tryz.func144,Tryz.ntmps144
 go_wp2_with (first|(go_at_call 134;refine(ap _ Jb).mono ?_;rintro r w1 ⟨rfl,ac⟩;have ⟨ak,af⟩:=aft ac;(try simp at af);(try have go:0<w1.heap.size:=by omega)))
 go_ret;exact⟨Jm HV.out.symm,Jb⟩):p:=h
theorem Bw{p:Prop}(h:p:=by
 clear hk fW;have HV:=Nf hv;clear hv
 go_wp2_with fail
 refine Jx Ue Ue (fun bj=>?_)
 repeat (quiet_step (fail))
 refine wpQuiet_nil ?_;intro wq au;replace au:=qbo au;obtain⟨au,dA,bh⟩:=au;clear bj
 (try simp at bh)
 go_wp2_with fail
 go_ret;exact⟨Kk HV.out.symm,Jb⟩):p:=h
theorem Bx{p:Prop}(h:p:=by
 have h1:=Kom (z:=W.heap.size+1) [.int .i64 k1,.int .i64 k2,.int .i64 k3] 0 X (fun i hi=>by
  rw [Nat.zero_add];obtain⟨x,hx⟩:=HY.out i hi;exact⟨x,Jr (w:=V) (w':=X) (a:=⟨W.heap.size+1,i,none⟩) (bX _ (Ne.symm aS)) hx⟩) j u hj
 rw [Nat.zero_add,<-hY2] at h1;exact h1):p:=h
theorem By{p:Prop}(h:p:=by
 have dH:(s.toList != [48])=true:=Fk;have iG:(s.toList == [48])=false:=Fk;rw [if_pos ⟨hh,hz⟩] at hv;have HV:=Nf hv;clear hv hh hz h48
 go_wp2_with fail
 refine Nv (v:= .tuple #[.int .i32 (0),.bool false]) Uq rfl ⟨Kd3 ?_,rfl⟩;exact HV.out.symm):p:=h
theorem B0{p:Prop}(h:p:=by
 have HV:=Nf hv;clear hv
 go_enter Tryz.func46,Tryz.ntmps46
 go_wp2_with (first|(go_at_call 87;refine(Jbm _ _).mono ?_;rintro r w1 ⟨rfl,rfl⟩)|(go_at_call 47;refine mo (Qt _ _) fun w1 ac ak af bV=>?_;(try simp at af)))
 go_ret;exact⟨Jk HV.out.symm,Jb⟩):p:=h
theorem B5{p:Prop}(h:p:=by
 rw [Bool.true_and] at aa;have HR:=Nf aa;clear aa hd hx
 go_wp2_with (first|(go_at_call 48;refine mo (dE _) fun w1 ac ak af bV=>?_;(try simp at af)))
 go_roundw
 case rel=>exact⟨k+1,Ke x false,Ua,Uw,rfl,HR.out,Jb⟩
 case measure=>simp [intOf];omega):p:=h
theorem B6{p:Prop}(h:p:=by
 refine Nv (v:= .tuple #[exV Ex.zero none 0,.bool false]) Vc rfl ?_;exact⟨⟨rfl,Kd0 (bT.back _ _ nn) cm _ _ _ _⟩,Kdp ((((hkY.setCell (b:=B) rfl _ _).setCell (b:=B) rfl _ _).setCell (b:=B) rfl _ _)) (Ns _) _ _ _ _⟩):p:=h
theorem B7{p:Prop}(h:p:=by
 match j,hj with
 | 0,hj=>simp [exC] at hj;subst hj;exact Q4.out.1
 | 1,hj=>simp [exC] at hj;subst hj;exact Q4.out.2.1
 | 2,hj=>simp [exC] at hj;subst hj;exact Q4.out.2.2.1
 | 3,hj=>simp [exC] at hj;subst hj;exact Q4.out.2.2.2):p:=h
theorem B8{p:Prop}(h:p:=by
 have h1:J6 (fun k=>k=B\/k=g) WL w':=h.kept.trans (J6.grown (S:=fun k=>(Value.slice Al l.length cl).ownBlock=some k) hg fun k hk=>hk) fun k hk hs=>by have:=(h.own.lt k hs).1;omega
 exact h1.setCell (b:=g) (.inr rfl) _ _):p:=h
theorem B9{p:Prop}(h:p:=by
 rw [h] at cO;clear h;have HV:=Nf hv;clear hv
 go_enter Tryz.func95,Tryz.ntmps95
 go_wp2_with (first|(go_at_call 115;refine mo (cO _) fun w1 ac ak af bV=>?_;(try simp at af)))
 go_ret;exact⟨Jm HV.out.symm,Jb⟩):p:=h
theorem Uaa{p:Prop}(h:p:=by
 rw [if_pos gh] at hv;have hd:decide (11<(s.size:Int))=true:=Ui;have HV:=Nf hv;clear hv
 go_wp2_with fail
 refine Nv (v:= .tuple #[.int .i32 (0),.bool false]) Uq rfl ⟨Kd3 ?_,rfl⟩;exact HV.out.symm):p:=h
theorem Uab{p:Prop}(h:p:=by
 clear eV;have HV:=Nf hv;clear hv
 go_enter Tryz.func49,Tryz.ntmps49
 go_wp2_with (first|(go_at_call 21;refine mo (aB _ Jb) fun w1 ac ak af bV=>?_;(try simp at af)))
 go_ret;exact⟨Jk HV.out.symm,Jb⟩):p:=h
theorem Uac{p:Prop}(h:p:=by
 have HV:=Nf hv;clear hv
 go_enter Tryz.func41,Tryz.ntmps41
 go_wp2_with (go_at_call 85;go_loud (refine qU.mono ?_;rintro r w1 ⟨rfl,ac⟩;have af:=ac.size))
 go_ret;exact⟨Jk HV.out.symm,Jc ac _⟩):p:=h
theorem Uad{p:Prop}(h:p:=by
 have hdz:=Je2 lA;rw [if_pos Ua] at hv;have HV:=Nf hv;clear hv;subst hdz
 go_wp2_with fail
 refine Nv (v:= .tuple #[.int .i32 (0),.bool false]) Uq rfl ⟨Kd3 ?_,rfl⟩;exact HV.out.symm):p:=h
theorem Uae{p:Prop}(h:p:=by
 rw [Jcx,Jgw];unfold Jck
 by_cases hs:s.data=s0.data
 ·rw [if_pos hs];simp [hs]
 ·rw [if_neg hs,h];have:decide (s0.data=s.data)=false:=by simpa using fun h=>hs h.symm
  rw [this,Bool.or_false]):p:=h
theorem Uaf{p:Prop}(h:p:=by
 go_wp2_with (first|(go_at_call 24;refine mo (eA _) fun w1 ac ak af bV=>?_;(try simp at af)))
 go_roundw
 case rel=>exact⟨k+1,_,Ua,Uw,rfl,Up,HR.out,Jb⟩
 case measure=>simp [intOf];omega):p:=h
theorem Uag{p:Prop}(h:p:=by
 have aS:k≠W.heap.size:=Ua;rw [heap_setCell_other _ _ _ _ aS,heap_setCell_other _ _ _ _ aS,heap_setCell_other _ _ _ _ aS,heap_setCell_other _ _ _ _ aS,heap_setCell_other _ _ _ _ aS]):p:=h
theorem Uah{p:Prop}(h:p:=by
 have HV:=Nf hv;clear hv
 go_enter Tryz.func46,Tryz.ntmps46
 go_wp2_with (first|(go_at_call 87;refine(Jbm _ _).mono ?_;rintro r w1 ⟨rfl,rfl⟩))
 go_ret;exact⟨Jk HV.out.symm,Jb⟩):p:=h
theorem Uai{p:Prop}(h:p:=by
 have aS:(Lit.string t.data.toList)≠ .string s.data.toList:=by
  intro h;injection h with h;exact aU Lf
 rw [has_put_other aS,atKey_put_other aS,(h3 t).1,(h3 t).2];simp [upd,aU]):p:=h
theorem Uaj{p:Prop}(h:p:=by
 clear hk
 go_enter Tryz.func51,Tryz.ntmps51
 go_wp2_with (first|(go_at_call 25;refine mo (az _ Jb) fun w1 ac ak af bV=>?_;(try simp at af)))
 go_ret;exact⟨Kk HV.out.symm,Jb⟩):p:=h
theorem Uak{p:Prop}(h:p:=by
 have HR:=Nf hR;clear hR hf
 go_enter Tryz.func32,Tryz.ntmps32
 go_wp2_with (go_at_call 29;refine(hj _ Jb).mono ?_;rintro r w1 ⟨rfl,ac⟩)
 go_ret;exact⟨Jm HR.out.symm,Jb⟩):p:=h
theorem Ual{p:Prop}(h:p:=by
 go_upto_region 14 with fail
 go_quiet (fail)
 go_wp2_with fail
 go_ret;exact(HV.out.step kM jt (J6.bel Jb)).done (Jm hY.out.symm) (fun h=>absurd (hY.out.symm.trans h) Ug)):p:=h
theorem Uan{p:Prop}(h:p:=by
 rw [Bool.false_and] at aa;have HR:=Nf aa;clear aa hd hx
 go_wp2_with fail
 go_roundw
 case rel=>exact⟨k+1,false,Ua,Uw,rfl,Dq,Jb⟩
 case measure=>simp [intOf];omega):p:=h
theorem Uao{p:Prop}(h:p:=by
 have HR:=Nf aa;clear aa hot hc lq aI
 go_wp2_with (go_at_call 74;go_loud (refine(hb _).mono ?_;rintro r w1 ⟨rfl,ac⟩))
 go_ret;exact⟨Kk HR.out,Jd ab ac⟩):p:=h
theorem Uap{p:Prop}(h:p:=by exact⟨Kd1 (Kd1 (Kd1 h1 (Kdl _ _ _) (Kds _ _ _)) (Kdz _ _) (Kf2 _ _)) (Kdc _ _ _) (Keg _ _ _),((h2.trans (Kdl _ _ _)).trans (Kdz _ _)).trans (Kdc _ _ _)⟩):p:=h
theorem Uaq{p:Prop}(h:p:=by
 dsimp only
 cases hf:Kc5 ts ⟨st1.pos+1,st1.bad⟩ ⟨#[102,98,121]⟩
 ·rw [hf] at this;simpa using this
 ·rw [hf] at this;rw [Kdu hf];simpa using this):p:=h
theorem Uas{p:Prop}(h:p:=by
 have bk:k=e.sub.length:=Ua;rw [bk,Nn,Ex.countL] at aa;have HR:=Nf aa;clear aa bk
 go_wp2_with fail
 go_ret;exact⟨Jm HR.out,Jb⟩):p:=h
theorem Uat{p:Prop}(h:p:=by
 have hkZ:=K2 bn
 repeat (first|with_reducible exact hkZ|with_reducible refine J6.alloc ?_ _|with_reducible refine J6.fresh ?_ Ua _ _)):p:=h
theorem Uau{p:Prop}(h:p:=by
 unfold wpOp;have hw:Region.wanted oj (yielded ops a.tmps)=true:=by simp [Region.wanted,hgj]
 simp only [hj,hw,if_true];exact .inl h2):p:=h
theorem Uav{p:Prop}(h:p:=by
 clear h1 bM gh;have HV:=Nf hv;clear hv
 go_enter Tryz.func115,Tryz.ntmps115
 go_wp2_with fail
 go_ret;exact⟨Jm HV.out.symm,Jb⟩):p:=h
theorem Uaw{p:Prop}(h:p:=by
 go_wp2_with fail
 go_quiet (fail)
 go_wp2_with fail
 go_roundw
 case rel=>exact⟨k+1,Ua,Uw,J8 ab _⟩
 case measure=>simp [intOf];omega):p:=h
theorem Uax{p:Prop}(h:p:=by exact Below.setCell (Below.setCell aC (show w.heap.size<=w.heap.size+1 by omega) _) (show w.heap.size<=w.heap.size+1 by omega) _):p:=h
theorem Uay{p:Prop}(h:p:=by
 clear hR a1;have HV:=Nf hv;clear hv
 go_enter Tryz.func14,Tryz.ntmps14
 go_wp2_with fail
 go_ret;exact⟨Jm HV.out.symm,Jb⟩):p:=h
theorem Uaz{p:Prop}(h:p:=by
 rw [Bool.eq_false_iff];intro h;simp only [Bool.and_eq_true,beq_iff_eq] at h;exact aN (Prod.ext h.1.1 (Prod.ext h.1.2 h.2))):p:=h
theorem Ua0{p:Prop}(h:p:=by
 rw [Bool.eq_false_iff];intro h;simp only [Bool.and_eq_true,beq_iff_eq] at h;exact hf (Prod.ext h.1.1 (Prod.ext h.1.2 h.2))):p:=h
theorem Ua1{p:Prop}(h:p:=by repeat (first|with_reducible exact tj|with_reducible refine X2.alloc ?_ _|with_reducible refine X2.beyond ?_ Ua _ _)):p:=h
theorem Ua2{p:Prop}(h:p:=by
 have pS:=Nf (show R.1=12 by rw [hR]);clear hR
 go_wp2_with fail
 go_ret;exact Jhi.bel (Jm pS.out.symm) Sy pO bU):p:=h
theorem Ua3{p:Prop}(h:p:=by
 rw [if_neg hd];have:decide (n.data=s.data)=false:=by simpa using fun e=>hd e.symm
 rw [this,Bool.or_false];exact hs):p:=h
theorem Ua4{p:Prop}(h:p:=by
 obtain⟨b2,off2,hA,am,-⟩:=hr.get (k:=0) (u:= .int .u8 l[0]) Mm;injection hA with hA;injection hA with e1 e2;omega):p:=h
theorem Ua5{p:Prop}(h:p:=by
 go_quiet (fail)
 go_upto_region 2 with (fail)
 go_quiet (fail)
 go_wp2_with fail
 go_ret2
 exact⟨⟨j,_,rfl,Ua,Ua⟩,Fj⟩):p:=h
theorem Ua6{p:Prop}(h:p:=by
 have HV:=Nf hv;clear hv
 go_enter Tryz.func14,Tryz.ntmps14
 go_wp2_with fail
 go_ret;exact⟨Jm HV.out.symm,Jb⟩):p:=h
theorem Ua7{p:Prop}(h:p:=by
 have HV:=Nf hv;clear hv
 go_enter Tryz.func50,Tryz.ntmps50
 go_wp2_with fail
 go_ret;exact⟨Jk HV.out.symm,Jb⟩):p:=h
theorem Ua8{p:Prop}(h:p:=by
 have HV:=Nf hv;clear hv
 go_enter Tryz.func94,Tryz.ntmps94
 go_wp2_with fail
 go_ret;exact⟨Jk HV.out.symm,Jb⟩):p:=h
theorem Ua9{p:Prop}(h:p:=by
 rw [Bool.eq_false_iff];intro h;simp only [Bool.and_eq_true,beq_iff_eq] at h;exact aS (by rw [h.1.1,h.1.2,h.2])):p:=h
theorem Uba{p:Prop}(h:p:=by
 go_roundw
 case rel=>exact⟨k+1,m'+x.count (most-m'),Ua,Uw,Uw,Ua,Ua,HR.out,Jb⟩
 case measure=>simp [intOf];omega):p:=h
theorem Ubb{p:Prop}(h:p:=by
 rw [(Jc (Nt) _).block k (by rw [Keq];exact h2)];exact Kfr _ _ _ _ _ _ (fun he=>aS (by rw [he]))):p:=h
theorem Ubc{p:Prop}(h:p:=by
 have HR:=Nf (fa.symm.trans aa);clear aa fa
 go_wp2_with fail
 go_ret;exact⟨Kk Tc,Jc (Nt) _⟩):p:=h
theorem Ubd{p:Prop}(h:p:=by
 clear aa;have HV:=Nf hv;clear hv
 go_wp2_with fail
 go_ret;exact⟨Kk HV.out.symm,Jc (Nt) _⟩):p:=h
theorem Ube{p:Prop}(h:p:=by
 rw [Ex.formed_eq,Bool.and_eq_true] at h;have:=h.1;unfold Jl Jw at this;rw [hk] at this;simp at this;omega):p:=h
theorem Ubf{p:Prop}(h:p:=by
 unfold wpOp;have hw:Region.wanted oi (yielded ops a.tmps)=true:=Gw;simp only [hi,hw,if_true];exact .inl h):p:=h
theorem Ubg{p:Prop}(h:p:=by
 rcases Nat.lt_or_ge j n with h|h
 ·exact h
 ·exact absurd hj (tail_waits hs hc hn inv _ i rfl dV gG j h)):p:=h
theorem Ubh{p:Prop}(h:p:=by
 obtain⟨g,c',hv,_,_,_,_,hc⟩:=Kc h hm;injection hv with e1 e2 e3;subst e1;exact⟨g,0,rfl,fun j u hj=>Mh⟩):p:=h
theorem Ubi{p:Prop}(h:p:=by
 rw [hF2];exact(bY b (fun he=>HNO.out.2 o k (he ▸ hk))).trans (bX b (fun he=>HNO.out.1 o k (he ▸ hk)))):p:=h
theorem Ubk{p:Prop}(h:p:=by
 obtain⟨A',c',hv,h1,h2⟩:=Jv h;injection hv with e1 e2 e3;subst e3;exact⟨h1,h2,fun hl=>absurd hl Ua⟩):p:=h
theorem Ubl{p:Prop}(h:p:=by exact⟨⟨_,rfl,_,_,rfl,Kk1 ho3 Ua Ua Ua⟩,Kga ip cm _ _ _ _ _,Kfp (K2 hk) (Ns _) _ _ _ _ _⟩):p:=h
theorem Ubm{p:Prop}(h:p:=by
 go_roundw
 case rel=>exact⟨k+1,Ua,Uw,by rw [eZ.out];exact ao,Jb⟩
 case measure=>simp [intOf];omega):p:=h
theorem Ubn{p:Prop}(h:p:=by
 rw [hF2];exact(Xi _ _).trans (Jr (w:=X) (w':=Y) (a:=⟨W.heap.size,j,none⟩) (bY _ aS) (cX j u hj))):p:=h
theorem Ubo{p:Prop}(h:p:=by exact⟨⟨⟨none,0,rfl,Kex _ _ fun V=>Ke2 V Uo⟩,Kd0 bT cm _ _ _ _⟩,Kdp hkY (Ns _) _ _ _ _⟩):p:=h
theorem Ubp{p:Prop}(h:p:=by
 rw [HX2.out];exact⟨⟨_,rfl,Khw _⟩,Jdj _ _ _ _ _ (J6.below dZ fR fun k hk=>La) (Ns _)⟩):p:=h
theorem Ubq{p:Prop}(h:p:=by
 simp only [Option.some.injEq,Prod.mk.injEq] at h;obtain⟨-,rfl⟩:=h;exact⟨Kdl _ _ _,Kds _ _ _⟩):p:=h
theorem Ubr{p:Prop}(h:p:=by
 unfold Jn7 at hv;simp only [Option.some.injEq,Prod.mk.injEq] at hv;have:=hv.1;injection this):p:=h
theorem Ubt{p:Prop}(h:p:=by
 clear hk fW;have HV:=Nf hv;clear hv
 go_wp2_with fail
 go_ret;exact⟨Kk HV.out.symm,Jb⟩):p:=h
theorem Ubu{p:Prop}(h:p:=by
 rw [if_pos hc] at h;simp only [Option.some.injEq,Prod.mk.injEq] at h;rw [<-h.2];exact hc):p:=h
theorem Ubv{p:Prop}(h:p:=by
 obtain⟨D,⟨es,clock,hh,F,hs,hD⟩,h2⟩:=h;exact⟨D,⟨es,clock,hb.trans hh,F,hs,hD⟩,h2⟩):p:=h
theorem Ubw{p:Prop}(h:p:=by
 go_roundw
 case rel=>exact⟨k+1,Ua,Uw,HR.out,Jb⟩
 case measure=>simp [intOf];omega):p:=h
theorem Ubx{p:Prop}(h:p:=by
 go_enter Tryz.func115,Tryz.ntmps115
 go_wp2_with fail
 go_ret;exact⟨Jm Ug,Jb⟩):p:=h
theorem Uby{p:Prop}(h:p:=by
 go_enter Tryz.func126,Tryz.ntmps126
 go_wp2_with fail
 go_ret;exact⟨Jk Ta,Jb⟩):p:=h
theorem Ubz{p:Prop}(h:p:=by exact Jc (Ke7 _ _ _ _ (Jd (Jc (Nt) _) ac) (Ns _)) _):p:=h
theorem Ub0{p:Prop}(h:p:=by
 go_enter Tryz.func89,Tryz.ntmps89
 go_wp2_with fail
 go_ret;exact⟨rfl,rfl⟩):p:=h
theorem Ub1{p:Prop}(h:p:=by
 rw [Nat.zero_add];exact⟨ha 0 _ rfl,ha 1 _ rfl,ha 2 _ rfl,ha 3 _ rfl⟩):p:=h
theorem Ub2{p:Prop}(h:p:=by exact⟨rfl,Kd0 dv cm _ _ _ _,Kdp (K2 hk) (Ns _) _ _ _ _⟩):p:=h
theorem Ub3{p:Prop}(h:p:=by
 go_roundg k
 case measure=>omega
 case rel=>exact⟨_,Ua,HR.out,rfl⟩):p:=h
theorem Ub5{p:Prop}(h:p:=by simp [IntKind.wrap,IntKind.bits,IntKind.signed];omega):p:=h
theorem Ub6{p:Prop}(h:p:=by
 go_ret;exact⟨Mp,Jc (Nt) _⟩):p:=h
theorem Ub7{p:Prop}(h:p:=by
 obtain⟨D,h1,_⟩:=h;exact h1.lt):p:=h
theorem Ub8{p:Prop}(h:p:=by repeat (first|(with_reducible assumption)|refine Jz.alloc ?_|refine Jz.bel ?_ Um|refine Jz.drew ?_)):p:=h
theorem Ub9{p:Prop}(h:p:=by rw [aW _ _ Uh];go_simp):p:=h
theorem Uca{p:Prop}(h:p:=by repeat (first|(with_reducible assumption)|refine Js ?_|refine Jy ?_ Um|refine Kp ?_)):p:=h
theorem Ucb{p:Prop}(h:p:=by rw [aW _ _ Vd];go_simp):p:=h
theorem Ucc{p:Prop}(h:p:=by rw [ag];exact(el _ _ Ud).trans (J4 (J4 ((aW _ _ Uh).trans Uc)))):p:=h
theorem Ucd{p:Prop}(h:p:=by rw [eE];exact Nf (((lQ.out.later dQ).set Ua _ _).later (Jc (Nt) _))):p:=h
theorem Uce{p:Prop}(h:p:=by rcases h with h|h;exact absurd h Ua;have:=lw _ h;omega):p:=h
theorem Ucf{p:Prop}(h:p:=by rw [bt];exact Ja ac Uc):p:=h
theorem Ucg{p:Prop}(h:p:=by rw [J5 _ _ _ _ _ Ug,J5 _ _ _ _ _ Ug];exact h2):p:=h
theorem Uci{p:Prop}(h:p:=by rw [J5 _ _ _ _ _ Ug,J5 _ _ _ _ _ Ug,J5 _ _ _ _ _ Ug];exact h3):p:=h
theorem Ucj{p:Prop}(h:p:=by rw [eE];exact J4 ((J5 _ _ _ _ _ Ug).trans (Ja dQ r10))):p:=h
theorem Uck{p:Prop}(h:p:=by rw [eE];exact J4 ((J5 _ _ _ _ _ Ug).trans (Ja dQ r12))):p:=h
theorem Ucl{p:Prop}(h:p:=by rw [eE];exact J4 ((J5 _ _ _ _ _ Ug).trans (Ja dQ r0))):p:=h
theorem Ucm{p:Prop}(h:p:=by rw [eE];exact J4 ((J5 _ _ _ _ _ Ug).trans (Ja dQ r1))):p:=h
theorem Ucn{p:Prop}(h:p:=by rw [eE];exact J4 ((J5 _ _ _ _ _ Ug).trans (Ja dQ r2))):p:=h
theorem Uco{p:Prop}(h:p:=by rw [eE];exact J4 ((J5 _ _ _ _ _ Ug).trans (Ja dQ r3))):p:=h
theorem Ucp{p:Prop}(h:p:=by rw [eE];exact J4 ((J5 _ _ _ _ _ Ug).trans (Ja dQ r4))):p:=h
theorem Ucq{p:Prop}(h:p:=by rw [eE];exact J4 ((J5 _ _ _ _ _ Ug).trans (Ja dQ r5))):p:=h
theorem Ucr{p:Prop}(h:p:=by rw [eE];exact J4 ((J5 _ _ _ _ _ Ug).trans (Ja dQ r6))):p:=h
theorem Ucs{p:Prop}(h:p:=by rw [eE];exact J4 ((J5 _ _ _ _ _ Ug).trans (Ja dQ r7))):p:=h
theorem Uct{p:Prop}(h:p:=by rw [eE];exact J4 ((J5 _ _ _ _ _ Ug).trans (Ja dQ r8))):p:=h
theorem Ucu{p:Prop}(h:p:=by rw [eE];exact J4 ((J5 _ _ _ _ _ Ug).trans (Ja dQ r9))):p:=h
theorem Ucv{p:Prop}(h:p:=by rw [dl];exact Nf ((mU.out.later bZ).set Ua _ _)):p:=h
theorem Ucw{p:Prop}(h:p:=by rw [dm _ _ er Uh];go_simp):p:=h
theorem Ucx{p:Prop}(h:p:=by rw [J5 _ _ _ _ _ Ug];exact h1):p:=h
theorem Ucy{p:Prop}(h:p:=by unfold Kc6;rw [h1,if_neg Uh]):p:=h
theorem Ucz{p:Prop}(h:p:=by
 replace aa:(false && (List.drop (k+1) p.eqs).all eqB)=Qw p:=U6;have HR:=Nf aa;clear aa hd hx
 go_wp2_with (first|(go_at_call 47;refine mo (Qt _ _) fun w1 ac ak af bV=>?_;(try simp at af))|(go_at_call 21;refine mo (aB _ Jb) fun w1 ac ak af bV=>?_;(try simp at af))|(go_at_call 49;refine mo (cU _ Jb) fun w1 ac ak af bV=>?_;(try simp at af))|(go_at_call 50;refine mo (bF _ Jb) fun w1 ac ak af bV=>?_;(try simp at af)))
 go_roundw
 case rel=>exact⟨k+1,_,Ua,Uw,rfl,HR.out,Jb⟩
 case measure=>simp [intOf];omega):p:=h
theorem Uc1{p:Prop}(h:p:=by
 go_wp2_with fail
 go_ret;exact⟨Jk HR.out,Jb⟩):p:=h
theorem Uc2{p:Prop}(h:p:=by
 go_wp2_with fail
 go_ret;exact⟨Jm HR.out,Jb⟩):p:=h
theorem Uc3{p:Prop}(h:p:=by
 go_ret;exact⟨Jm HV.out.symm,Jb⟩):p:=h
theorem Uc4{p:Prop}(h:p:=by
 rw [if_pos (by simpa using c5)] at hv;have HV:=Nf hv;clear hv
 go_enter Tryz.func143,Tryz.ntmps143
 go_wp2_with (first|(at_lookup;refine Qh rfl (.tmp 17) (.tmp 19) 177 rfl Tryz.underlying9 Tryz.underlying177 Tryz.underlying3 (Kj _) B n (Qi l) q.name rfl Ub8 rfl hs ?_)|(at_lookup;refine Qb rfl (.tmp 32) (.tmp 34) 177 rfl Tryz.underlying9 Tryz.underlying177 Tryz.underlying3 (Kj _) Bd nd fd q.name rfl Ub8 rfl hs ?_)|(go_at_call_of 139 E2;refine mo (gA _ Jb) fun w1 ac ak af bV=>?_;(try simp at af);(try have bV:=lt0 w w1);(try have gq:=ltA w 1 w1);(try have ow:=ltA w 2 w1);(try have ns:=lt0 wr w1);(try have nt:=ltA wr 1 w1);(try have cA:b<w1.heap.size:=by omega))|(go_at_call_of 139 E1;refine mo (ey _ Jb) fun w1 ac ak af bV=>?_;(try simp at af);(try have bV:=lt0 w w1);(try have gq:=ltA w 1 w1);(try have ow:=ltA w 2 w1);(try have ns:=lt0 wr w1);(try have nt:=ltA wr 1 w1);(try have cA:b<w1.heap.size:=by omega)))
 go_ret;exact⟨Jm HV.out.symm,Jb⟩):p:=h
theorem Uc5{p:Prop}(h:p:=by
 clear ey;have HV:=Nf hv;clear hv
 go_enter Tryz.func143,Tryz.ntmps143
 go_wp2_with (first|(at_lookup;refine Qh rfl (.tmp 17) (.tmp 19) 177 rfl Tryz.underlying9 Tryz.underlying177 Tryz.underlying3 (Kj _) B n (Qi l) q.name rfl Ub8 rfl hs ?_)|(at_lookup;refine Qb rfl (.tmp 32) (.tmp 34) 177 rfl Tryz.underlying9 Tryz.underlying177 Tryz.underlying3 (Kj _) Bd nd fd q.name rfl Ub8 rfl hs ?_)|(go_at_call_of 139 E2;refine mo (gA _ Jb) fun w1 ac ak af bV=>?_;(try simp at af);(try have bV:=lt0 w w1);(try have gq:=ltA w 1 w1);(try have ow:=ltA w 2 w1);(try have ns:=lt0 wr w1);(try have nt:=ltA wr 1 w1);(try have cA:b<w1.heap.size:=by omega))|(go_at_call_of 139 E1;refine mo (ey _ Jb) fun w1 ac ak af bV=>?_;(try simp at af);(try have bV:=lt0 w w1);(try have gq:=ltA w 1 w1);(try have ow:=ltA w 2 w1);(try have ns:=lt0 wr w1);(try have nt:=ltA wr 1 w1);(try have cA:b<w1.heap.size:=by omega)))
 go_ret;exact⟨Jm HV.out.symm,Jb⟩):p:=h
theorem Uc6{p:Prop}(h:p:=by
 have HV:=Nf hv;clear hv
 go_enter Tryz.func143,Tryz.ntmps143
 go_wp2_with (first|(at_lookup;refine Qh rfl (.tmp 17) (.tmp 19) 177 rfl Tryz.underlying9 Tryz.underlying177 Tryz.underlying3 (Kj _) B n (Qi l) q.name rfl Ub8 rfl hs ?_)|(at_lookup;refine Qb rfl (.tmp 32) (.tmp 34) 177 rfl Tryz.underlying9 Tryz.underlying177 Tryz.underlying3 (Kj _) Bd nd fd q.name rfl Ub8 rfl hs ?_)|(go_at_call_of 139 E2;refine mo (gA _ Jb) fun w1 ac ak af bV=>?_;(try simp at af);(try have bV:=lt0 w w1);(try have gq:=ltA w 1 w1);(try have ow:=ltA w 2 w1);(try have ns:=lt0 wr w1);(try have nt:=ltA wr 1 w1);(try have cA:b<w1.heap.size:=by omega))|(go_at_call_of 139 E1;refine mo (ey _ Jb) fun w1 ac ak af bV=>?_;(try simp at af);(try have bV:=lt0 w w1);(try have gq:=ltA w 1 w1);(try have ow:=ltA w 2 w1);(try have ns:=lt0 wr w1);(try have nt:=ltA wr 1 w1);(try have cA:b<w1.heap.size:=by omega)))
 go_ret;exact⟨Jm HV.out.symm,Jb⟩):p:=h
theorem Uc7{p:Prop}(h:p:=by
 have ie:(n:Int) / 2 ^ (8 * k) % 256=((n / 256 ^ k % 256:Nat):Int):=by
  rw [show(256:Nat)=2 ^ 8 from rfl,<-Nat.pow_mul];simp
 have nn:byU (l ++ leB (k+1) n)=byU (l ++ leB k n) ++ [.int .u8 ((n:Int) / 2 ^ (8 * k) % 256)]:=by
  rw [Jgy,<-List.append_assoc,Jeu (l ++ leB k n),<-ie];rfl
 have vC:=Nf nn;clear nn ie
 go_wp2_with (at_builtin;refine Kap rfl (.tmp 40) (.tmp 47) 50 rfl w.heap.size 5 _ 1 1 Tryz.underlying50 Jgl rfl Ua (.slice A2 (l.length+k) c2) (l.length+k) (byU (l ++ leB k n)) _ 1 [.int .u8 ((n:Int) / 2 ^ (8 * k) % 256)] rfl Uca rfl rfl (fun j u hj=>Lu) Vg Ua Ua Ly ?_;intro v2 w2 ao aq;have br:=aq.size;(try simp at br))
 go_roundw
 case rel=>exact⟨k+1,Ua,Uw,Sm,(Jc ab _).trans aq⟩
 case measure=>simp [intOf];omega):p:=h
theorem Uc8{p:Prop}(h:p:=by
 go_wp2_with (first|(go_at_call 134;refine(ap _ Jb).mono ?_;rintro r w1 ⟨rfl,ac⟩;have ⟨ak,af⟩:=aft ac;(try simp at af);(try have go:0<w1.heap.size:=by omega)))
 exact Uc3):p:=h
theorem Sh{p:Prop}(h:p:=by simp [imL]):p:=h
end Go.Proofs.YtdgjplldlfeolaaGreatDoor
