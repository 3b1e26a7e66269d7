/- Lemmas whose one argument is found by tactics. -/
import Derived.BigQuiet
import Derived.BigRegion
import Derived.Deep.CutRange
import Derived.Deep.Draws
import Derived.Deep.Fields
import Derived.Deep.LoopGhost
import Derived.Deep.QuietTactic
import Derived.Deep.RegionHeld3
import Derived.Deep.RegionLaw
import Derived.Deep.RegionWith
import Derived.Deep.Slices
import Derived.DeepKeys4
import Derived.IntWalk
import Derived.LaidMore
import Derived.Laws.CopyOwn
import Derived.Laws.Entries
import Derived.Laws.MakeOwn
import Derived.Laws.OwnMore
import Derived.Laws.RangeAny
import Derived.Laws.RangeString
import Derived.Laws.StructEq
import Derived.Lib.Hide
import Derived.Lib.QuietBelow
import Derived.Lib.SmallJoins
import Derived.Maps.Keyed
import Derived.Maps.Own
import Derived.Maps.OwnOps
import Derived.Maps.OwnSet
import Derived.Maps.Views
import Derived.OpenShut
import Derived.OrdersHeld
import Derived.ProofKit
import Derived.RegionTactic
import Derived.SevenTiedAt
import Derived.StillTail
import Derived.StillTailTactics
import Derived.Stop.Joined
import Derived.StringKeys
import Derived.WalkArith
import Derived.WalkKit
import Derived.WalkLawsBesides
import Derived.WalkMore
import Derived.WalkSpells
import Derived.WideKeyEntry
import Derived.WideShapes
set_option linter.unusedVariables false
namespace Go.Proofs.YtknfcamdfdfoeaaGreatDoor
open Go.RowKit Go.Sort
theorem Na(W:World)(b o:Nat)(x:Int)(h:W.cell? ⟨b,o,none⟩=some (.int .i64 x)):W.cell? ⟨b,o,none⟩=some (.int .i64 x):=h
theorem Nb(W:World)(b o:Nat)(v:Value)(h:W.cell? ⟨b,o,none⟩=some v):W.cell? ⟨b,o,none⟩=some v:=h
theorem Nc(W:World)(b o:Nat)(h:W.frozen? ⟨b,o,none⟩=false):W.frozen? ⟨b,o,none⟩=false:=h
theorem Nd(w W:World)(h:Below w.heap.size w W):Below w.heap.size w W:=h
theorem Nf{p:Prop}(h:p):Hid p:=Lib.hid h
theorem Ng{A:Type}{l:List A}{i:Nat}(h:i<l.length):l[i]?=some l[i]:=List.getElem?_eq_getElem h
theorem Nh{A:Type}{l:List A}{i:Nat}{a:A}(h:l[i]?=some a):∃h:i<l.length,l[i]=a:=List.getElem?_eq_some_iff.1 h
theorem Ni{A:Type}{l:List A}{i:Nat}{a:A}(h:l[i]?=some a):a∈l:=List.mem_of_getElem? h
theorem Nj{A:Type}{l:List A}{i:Nat}(h:i<l.length):l[i]∈l:=List.getElem_mem h
theorem Nk{A:Type}{a b:List A}:(a++b).length=a.length+b.length:=List.length_append
theorem Nl{A:Type}{a:A}{b:List A}:(a::b).length=b.length+1:=List.length_cons
theorem Nm{A:Type}:([]:List A).length=0:=List.length_nil
theorem Nn{A:Type}{l:List A}:l.drop l.length=[]:=List.drop_length
theorem No{A:Type}{l:List A}{i:Nat}(h:i<l.length):l.drop i=l[i]::l.drop (i+1):=List.drop_eq_getElem_cons h
theorem Np{n:Nat}:0<=n:=Nat.zero_le n
theorem Nq(n:Nat):0<=n:=Nat.zero_le n
theorem Nr{n m k:Nat}(h:n<m)(g:m<=k):n<k:=Nat.lt_of_lt_of_le h g
theorem Ns(n:Nat):n<=n:=Nat.le_refl n
theorem Nt{n:Nat}{w:World}:Below n w w:=Below.refl _ _
theorem Nu{w:World}{a:Addr}{v:Value}(h:w.cell? a=some v):a.block<w.heap.size:=block_lt_of_cell h
theorem Nv{P:Program}{fn:Func}{R:Ending->World->Prop}{a:Act}{w:World}{v:Value}(hr:(results fn a.tmps).run P w = .ok v w)(hd:a.defers=[])(hR:R (.returned v) w):bodyPost P fn R .ret a w:=bodyPost_ret hr hd hR
theorem Nw{w:World}{b:Nat}{e:TypeId}{s:Nat}:w.ownsRow b e s (.slice none 0 0) 0 []:=World.ownsRow_nil _ _ _ _
theorem Nx(w:World)(a:Addr)(v:Value){u:Value}(h:w.cell? a=some u):(w.setCell a v).cell? a=some v:=World.cell?_setCell_same w a v h
theorem Ua{p:Prop}(h:p:=by omega):p:=h
theorem Uc{p:Prop}(h:p:=by rw [ag];go_simp):p:=h
theorem Ud{p:Prop}(h:p:=by rw [hk];rfl):p:=h
theorem Uf{p:Prop}(h:p:=by with_reducible assumption):p:=h
theorem Ug{p:Prop}(h:p:=by kernel_rfl):p:=h
theorem Uh{p:Prop}(h:p:=by first|(simp;done)|(simp;omega)|(show w.heap.size<=wr.heap.size;omega)):p:=h
theorem Uj{p:Prop}(h:p:=by simp;omega):p:=h
theorem Uk{p:Prop}(h:p:=by simp only [Kq,Ko,List.size_toArray,Nl,Nm];omega):p:=h
theorem Ul{p:Prop}(h:p:=by simp):p:=h
theorem Um{p:Prop}(h:p:=by simp only [List.getElem?_toArray,List.getElem?_cons_succ,List.getElem?_cons_zero];rfl):p:=h
theorem Uo{p:Prop}(h:p:=by rw [ag];exact Jb):p:=h
theorem Up{p:Prop}(h:p:=by go_num):p:=h
theorem Uq{p:Prop}(h:p:=by go_simp):p:=h
theorem Us{p:Prop}(h:p:=by rw [ag];first|omega|(simp;done)|(simp;omega)):p:=h
theorem Ut{p:Prop}(h:p:=by have:=aA.size;simpa using this):p:=h
theorem Uv{p:Prop}(h:p:=by simp [Value.oneCell']):p:=h
theorem Ux{p:Prop}(h:p:=by decide):p:=h
theorem Uz{p:Prop}(h:p:=by rw [bz];go_simp):p:=h
theorem U0{p:Prop}(h:p:=by first|(simp;done)|(simp;omega)):p:=h
theorem U1{p:Prop}(h:p:=by injection hb with hb;omega):p:=h
theorem U2{p:Prop}(h:p:=by unfold maxLen;omega):p:=h
theorem U3{p:Prop}(h:p:=by rw [hV];go_simp):p:=h
theorem U5{p:Prop}(h:p:=by rw [Ex.formed_eq,Bool.and_eq_true] at hf;exact hf.1):p:=h
theorem U6{p:Prop}(h:p:=by rw [List.take_succ_eq_append_getElem am]):p:=h
theorem U7{p:Prop}(h:p:=by first|omega|(simp;omega)):p:=h
theorem U8{p:Prop}(h:p:=by rw [bL.out];try rfl):p:=h
theorem U9{p:Prop}(h:p:=by rw [Kw];simpa using hj):p:=h
theorem Vb{p:Prop}(h:p:=by simp [results,Tryz.results90,go_sem, *];done):p:=h
theorem Vc{p:Prop}(h:p:=by intro he;injection he with he;omega):p:=h
theorem Vd{p:Prop}(h:p:=by rw [dq];go_simp):p:=h
theorem Ve{p:Prop}(h:p:=by simpa using h):p:=h
theorem Vg{p:Prop}(h:p:=by rw [<-aa];simp only [Bool.false_and,Bool.and_false]):p:=h
theorem Vh{p:Prop}(h:p:=by unfold I32;omega):p:=h
theorem Vi{p:Prop}(h:p:=by rw [HV.out];rfl):p:=h
theorem Vj{p:Prop}(h:p:=by unfold Jl Jw;rw [hk];simp [h3]):p:=h
theorem Vk{p:Prop}(h:p:=by have:=HB.out;rw [<-aa] at this;exact this):p:=h
theorem Vl{p:Prop}(h:p:=by rw [ag];(repeat refine Jh ?_);exact Km):p:=h
theorem Vm{p:Prop}(h:p:=by rw [List.drop_zero];omega):p:=h
theorem Vo{p:Prop}(h:p:=by rw [List.map_append];exact ao):p:=h
theorem Vp{p:Prop}(h:p:=by rw [HV.out]):p:=h
theorem Vr{p:Prop}(h:p:=by simpa using ew):p:=h
theorem Vs{p:Prop}(h:p:=by unfold I64;omega):p:=h
theorem Vt{p:Prop}(h:p:=by unfold Jl Jw;rw [hk];simp [aD,hl]):p:=h
theorem Vu{p:Prop}(h:p:=by rw [hV];exact(((Ja9.new w _ _ _ _).later aA).later (Jc (Jc (Nt) _) _))):p:=h
theorem Vw{p:Prop}(h:p:=by simpa using hk):p:=h
theorem Vx{p:Prop}(h:p:=by rw [jG.out];unfold Jae;simp [hk]):p:=h
theorem Vy{p:Prop}(h:p:=by simp [results,Tryz.results75,go_sem, *]):p:=h
theorem Vz{p:Prop}(h:p:=by simp [results,Tryz.results84,go_sem, *]):p:=h
theorem V8{p:Prop}(h:p:=by rw [hV];exact AtZ.new _ _ _ _ _):p:=h
theorem V9{p:Prop}(h:p:=by have:=ac.size;simpa using this):p:=h
theorem La{p:Prop}(h:p:=by rw [ag];simp):p:=h
theorem Lb{p:Prop}(h:p:=by rw [beq_eq_false_iff_ne];omega):p:=h
theorem Lc{p:Prop}(h:p:=by have:=dt.out;simp [this]):p:=h
theorem Ld{p:Prop}(h:p:=by rw [Ex.showB_eq,Ex.showL_map,aT,hk];simp [Ye,Ex.partB]):p:=h
theorem Le{p:Prop}(h:p:=by intro he;injection he with e1 e2;first|exact ho e2|exact ho e2.symm):p:=h
theorem Lf{p:Prop}(h:p:=by intro he;injection he with e1 e2;omega):p:=h
theorem Lg{p:Prop}(h:p:=by simpa using h2):p:=h
theorem Lh{p:Prop}(h:p:=by rw [cH];rfl):p:=h
theorem Li{p:Prop}(h:p:=by rw [Nk];omega):p:=h
theorem Lj{p:Prop}(h:p:=by rw [bt];go_simp):p:=h
theorem Lk{p:Prop}(h:p:=by rw [ag];omega):p:=h
theorem Ll{p:Prop}(h:p:=by rw [show(Tryz.prog.info? 5).get!.bytes=1 by kernel_rfl];omega):p:=h
theorem Ln{p:Prop}(h:p:=by have:=cW.size;simpa using this):p:=h
theorem Lo{p:Prop}(h:p:=by have:=dX.size;simpa using this):p:=h
theorem Lp{p:Prop}(h:p:=by have:=gn.out;simp [Jw] at ai;omega):p:=h
theorem Lq{p:Prop}(h:p:=by unfold Addr.add;split <;> simp_all):p:=h
theorem Lr{p:Prop}(h:p:=by simp [results,Tryz.results53,go_sem, *]):p:=h
theorem Ls{p:Prop}(h:p:=by rw [iV];go_simp):p:=h
theorem Lt{p:Prop}(h:p:=by simp at h):p:=h
theorem Lw{p:Prop}(h:p:=by simpa using h1):p:=h
theorem Lx{p:Prop}(h:p:=by rintro⟨h1,h2⟩;simp_all):p:=h
theorem Ly{p:Prop}(h:p:=by rw [eE];exact Nf ((J3.set po.out (lT.out.later dQ) (Ns _) _ _).later (Jc (Nt) _))):p:=h
theorem Lz{p:Prop}(h:p:=by rw [Ex.typ_eq,aU];rfl):p:=h
theorem L0{p:Prop}(h:p:=by unfold Jl Jw;rw [hk];simp [bd]):p:=h
theorem L1{p:Prop}(h:p:=by intro h;rw [h] at hs;cases hs):p:=h
theorem L2{p:Prop}(h:p:=by rw [aU]):p:=h
theorem L4{p:Prop}(h:p:=by simp [results,Tryz.results35,go_sem, *]):p:=h
theorem L5{p:Prop}(h:p:=by simp [results,Tryz.results45,go_sem, *]):p:=h
theorem L6{p:Prop}(h:p:=by simp [hk]):p:=h
theorem L8{p:Prop}(h:p:=by rw [hV];exact Zw ((Qo rfl).trans rfl)):p:=h
theorem L9{p:Prop}(h:p:=by have:=congrArg List.toArray h;simpa using this):p:=h
theorem Fb{p:Prop}(h:p:=by simpa using bM):p:=h
theorem Fc{p:Prop}(h:p:=by rw [gi];exact(((cD.setCell (.inr rfl) _ _).setCell (.inr rfl) _ _).setCell (.inr rfl) _ _)):p:=h
theorem Fd{p:Prop}(h:p:=by rw [ij];simp only [Array.length_toList,size_madeCells];omega):p:=h
theorem Fe{p:Prop}(h:p:=by rw [eE];exact Js (Kn (Jy iK.out dQ) (fun b hb he=>by have:=(iK.out.lt b hb).1;omega) _ _)):p:=h
theorem Ff{p:Prop}(h:p:=by rw [aT];rfl):p:=h
theorem Fg{p:Prop}(h:p:=by rw [bL.out,iz.out];rfl):p:=h
theorem Fh{p:Prop}(h:p:=by rw [gy];exact Qq _ _ _ bV4 qV):p:=h
theorem Fi{p:Prop}(h:p:=by rw [hV];exact Qq _ _ _ bV3 gK):p:=h
theorem Fj{p:Prop}(h:p:=by rw [HV.out];try rfl):p:=h
theorem Fk{p:Prop}(h:p:=by rw [ku.out,<-aa];rfl):p:=h
theorem Fm{p:Prop}(h:p:=by have:=H1.out;omega):p:=h
theorem Fo{p:Prop}(h:p:=by rw [ag];first|exact iZ|simp):p:=h
theorem Fq{p:Prop}(h:p:=by have:=h3 b hb;simp at this;omega):p:=h
theorem Ft{p:Prop}(h:p:=by have:=(ae.lt b hb).1;omega):p:=h
theorem Fu{p:Prop}(h:p:=by rw [Nat.zero_add,Qo rfl];simpa using hj):p:=h
theorem Fv{p:Prop}(h:p:=by rw [fY.out,hk];simp [Ye];simpa using hn):p:=h
theorem Fw{p:Prop}(h:p:=by simp [results,Tryz.results13,go_sem, *]):p:=h
theorem Fx{p:Prop}(h:p:=by have:=S4.out.base hB;simp;omega):p:=h
theorem Fy{p:Prop}(h:p:=by have:=h b hb;simp at this;omega):p:=h
theorem Fz{p:Prop}(h:p:=by simp [hx]):p:=h
theorem F0{p:Prop}(h:p:=by simp [hy]):p:=h
theorem F3{p:Prop}(h:p:=by rw [Array.toArray_toList];exact heap_alloc_new w _):p:=h
theorem F4{p:Prop}(h:p:=by rw [dl];exact Nf (J3.set po.out (pn.out.later bZ) (Ns _) _ _)):p:=h
theorem F5{p:Prop}(h:p:=by rw [<-h.2];exact Nt):p:=h
theorem F6{p:Prop}(h:p:=by first|exact Nt|assumption):p:=h
theorem F7{p:Prop}(h:p:=by rw [Nk];simp only [Nl,Nm];omega):p:=h
theorem F8{p:Prop}(h:p:=by have:=HW.out;first|omega|(rw [this])):p:=h
theorem F9{p:Prop}(h:p:=by rw [fY.out,hk];simp [Ye]):p:=h
theorem Mb{p:Prop}(h:p:=by rw [<-aa];simp only [Bool.true_and,Bool.and_true]):p:=h
theorem Mc{p:Prop}(h:p:=by show W0.heap.size<=wr.heap.size;omega):p:=h
theorem Md{p:Prop}(h:p:=by unfold Jl Jw;rw [hk];simp [hl,bC,bd,h,h2,Int.not_lt.2 h,Int.not_lt.2 h2]):p:=h
theorem Me{p:Prop}(h:p:=by simpa using aO):p:=h
theorem Mf{p:Prop}(h:p:=by simpa using hi):p:=h
theorem Mg{p:Prop}(h:p:=by simpa using hz):p:=h
theorem Mh{p:Prop}(h:p:=by unfold Jl Jw;rw [hk];simp [hl,hs,h]):p:=h
theorem Mi{p:Prop}(h:p:=by unfold Kz;rw [dif_pos h0];simp [h1]):p:=h
theorem Ml{p:Prop}(h:p:=by rw [dl];exact Kn gw (fun b hb he=>by have:=(gw.lt b hb).1;omega) _ _):p:=h
theorem Mm{p:Prop}(h:p:=by rw [Nat.zero_add];exact hc j u hj):p:=h
theorem Mn{p:Prop}(h:p:=by unfold okS;have:=cM.name;unfold maxLen;omega):p:=h
theorem Mo{p:Prop}(h:p:=by have:=(ae.lt b hb).2;omega):p:=h
theorem Mp{p:Prop}(h:p:=by have:=gn.out;simp [Jw] at ai;simp [this,ai]):p:=h
theorem Mq{p:Prop}(h:p:=by exact Km):p:=h
theorem Mv{p:Prop}(h:p:=by rw [hV];exact Jc (Jc (Nt) _) _):p:=h
theorem Mw{p:Prop}(h:p:=by simp;try omega):p:=h
theorem Mx{p:Prop}(h:p:=by simpa using hs):p:=h
theorem My{p:Prop}(h:p:=by unfold Jl Jw;rw [hk];simp [Int.not_le.1 h]):p:=h
theorem Mz{p:Prop}(h:p:=by unfold X8;rw [hv];rfl):p:=h
theorem M1{p:Prop}(h:p:=by rw [HPB.out,vT.out,<-HS.out,<-aa]):p:=h
theorem Gc{p:Prop}(h:p:=by unfold X8;rw [hv,if_pos rfl,bH]):p:=h
theorem Gd{p:Prop}(h:p:=by rfl):p:=h
theorem Ge{p:Prop}(h:p:=by rw [eE];exact J4 (Nx _ _ _ (Ja dQ r11))):p:=h
theorem Gf{p:Prop}(h:p:=by have:=gl.size;simpa using this):p:=h
theorem Gg{p:Prop}(h:p:=by rw [List.take_succ_eq_append_getElem dO]):p:=h
theorem Gj{p:Prop}(h:p:=by simp [Qu];omega):p:=h
theorem Gk{p:Prop}(h:p:=by simpa [exC] using hj):p:=h
theorem Gl{p:Prop}(h:p:=by unfold Jl Jw;rw [hk];simp [hs]):p:=h
theorem Gn{p:Prop}(h:p:=by rw [dl,World.frozen?_setCell];exact(Jf bZ _ _ br).trans g11):p:=h
theorem Gp{p:Prop}(h:p:=by rw [Array.length_toList,size_madeCells]):p:=h
theorem Gq{p:Prop}(h:p:=by simp [results,Tryz.results24,go_sem, *]):p:=h
theorem Gr{p:Prop}(h:p:=by simp [results,Tryz.results25,go_sem, *]):p:=h
theorem Gs{p:Prop}(h:p:=by simp [results,Tryz.results29,go_sem, *]):p:=h
theorem Gt{p:Prop}(h:p:=by simp [results,Tryz.results41,go_sem, *]):p:=h
theorem Gu{p:Prop}(h:p:=by simp [results,Tryz.results48,go_sem, *]):p:=h
theorem Gv{p:Prop}(h:p:=by simp [results,Tryz.results71,go_sem, *]):p:=h
theorem Gy{p:Prop}(h:p:=by rw [List.take_add_one,hx];rfl):p:=h
theorem Gz{p:Prop}(h:p:=by rw [Ex.showB_eq,Ex.showL_map,aT,hk];simp [Ye,hn,Ex.partB]):p:=h
theorem G0{p:Prop}(h:p:=by rw [jQ.out,<-aa];rfl):p:=h
theorem G1{p:Prop}(h:p:=by simp [results,Tryz.results8,go_sem, *]):p:=h
theorem G2{p:Prop}(h:p:=by simp [results,Tryz.results9,go_sem, *]):p:=h
theorem G3{p:Prop}(h:p:=by unfold Jl Jw;rw [hk];simp [hl,bC,bd,h]):p:=h
theorem G4{p:Prop}(h:p:=by rw [bt];exact Jb):p:=h
theorem G7{p:Prop}(h:p:=by simpa using dj):p:=h
theorem G8{p:Prop}(h:p:=by simpa using eD):p:=h
theorem G9{p:Prop}(h:p:=by simpa using hd):p:=h
theorem Db{p:Prop}(h:p:=by unfold maxLen;show 0<=_;omega):p:=h
theorem Dc{p:Prop}(h:p:=by rw [dl];exact Nx _ _ _ (Ja bZ m8)):p:=h
theorem Dd{p:Prop}(h:p:=by rw [hl];rfl):p:=h
theorem Df{p:Prop}(h:p:=by have:=h b hb;omega):p:=h
theorem Dh{p:Prop}(h:p:=by injection aa):p:=h
theorem Di{p:Prop}(h:p:=by rw [eZ.out,Jce,if_neg (fun he=>hy (by ext1;exact he))]):p:=h
theorem Dj{p:Prop}(h:p:=by simp [pG]):p:=h
theorem Dk{p:Prop}(h:p:=by rw [Nk,Y4];exact ae):p:=h
theorem Dl{p:Prop}(h:p:=by rw [ij];exact(Nat.min_self _).symm):p:=h
theorem Do{p:Prop}(h:p:=by rw [ag];exact cR.later Jb):p:=h
theorem Dp{p:Prop}(h:p:=by simpa using h8):p:=h
theorem Dq{p:Prop}(h:p:=by simpa using hr):p:=h
theorem Dr{p:Prop}(h:p:=by first|omega|simp):p:=h
theorem Ds{p:Prop}(h:p:=by have:=aq.size;simp at this;omega):p:=h
theorem Dt{p:Prop}(h:p:=by rw [Bool.false_and];exact HR.out):p:=h
theorem Du{p:Prop}(h:p:=by rw [Jbs,HW.out];exact ao):p:=h
theorem Dv{p:Prop}(h:p:=by rw [dq];exact Jb):p:=h
theorem Dw{p:Prop}(h:p:=by rw [hW];exact Jb):p:=h
theorem Dx{p:Prop}(h:p:=by have:=hb.size;omega):p:=h
theorem Dy{p:Prop}(h:p:=by have:=S1.out.base hB;simp;omega):p:=h
theorem Dz{p:Prop}(h:p:=by simp [Region.wanted,hg]):p:=h
theorem D0{p:Prop}(h:p:=by have:=aG.size;simpa using this):p:=h
theorem D1{p:Prop}(h:p:=by have:=dB.size;simpa using this):p:=h
theorem D2{p:Prop}(h:p:=by rw [bH.out];rfl):p:=h
theorem D3{p:Prop}(h:p:=by simp [setBlock]):p:=h
theorem D4{p:Prop}(h:p:=by rw [eP];rfl):p:=h
theorem D5{p:Prop}(h:p:=by rw [hV];exact Jc bV1 _):p:=h
theorem D6{p:Prop}(h:p:=by rw [hV];exact Jc bV2 _):p:=h
theorem D7{p:Prop}(h:p:=by rw [hn];rfl):p:=h
theorem D8{p:Prop}(h:p:=by rw [hr] at h0;cases h0):p:=h
theorem D9{p:Prop}(h:p:=by rw [Nat.pow_succ] at hm;omega):p:=h
theorem Sb{p:Prop}(h:p:=by rw [List.drop_zero];exact HA):p:=h
theorem Sc{p:Prop}(h:p:=by rw [hV];simp):p:=h
theorem Sd{p:Prop}(h:p:=by rw [<-dC];exact HB.out):p:=h
theorem Se{p:Prop}(h:p:=by simpa using aS):p:=h
theorem Sf{p:Prop}(h:p:=by simpa using c5):p:=h
theorem Sg{p:Prop}(h:p:=by simpa using hj):p:=h
theorem Sh{p:Prop}(h:p:=by unfold K5;rw [hw];rfl):p:=h
theorem Si{p:Prop}(h:p:=by have:=(hU.out b hb).1;omega):p:=h
theorem Sj{p:Prop}(h:p:=by intro i;unfold K4;simp [hk]):p:=h
theorem Sk{p:Prop}(h:p:=by rw [bz];exact Jb):p:=h
theorem Sl{p:Prop}(h:p:=by rw [h];rfl):p:=h
theorem Sm{p:Prop}(h:p:=by rw [vC.out];exact ao):p:=h
theorem Sn{p:Prop}(h:p:=by have:=(ql.lt b hb).1;omega):p:=h
theorem So{p:Prop}(h:p:=by rw [Zr];rfl):p:=h
theorem Sp{p:Prop}(h:p:=by rw [bM];rfl):p:=h
theorem Sq{p:Prop}(h:p:=by have:=cM.size;omega):p:=h
theorem Sr{p:Prop}(h:p:=by show b≠Wa.heap.size;omega):p:=h
theorem Ss{p:Prop}(h:p:=by ext1;exact he.symm):p:=h
theorem St{p:Prop}(h:p:=by have:=hj.out;omega):p:=h
theorem Su{p:Prop}(h:p:=by rw [ag];simp;omega):p:=h
theorem Sv{p:Prop}(h:p:=by rw [pS.out];decide):p:=h
theorem Sw{p:Prop}(h:p:=by simp [hu]):p:=h
theorem Sx{p:Prop}(h:p:=by simpa using eQ):p:=h
theorem Sy{p:Prop}(h:p:=by simpa using gh):p:=h
theorem Sz{p:Prop}(h:p:=by simpa using h3):p:=h
theorem S9{p:Prop}(h:p:=by simpa using h7):p:=h
theorem Ta{p:Prop}(h:p:=by simpa using he):p:=h
theorem Tb{p:Prop}(h:p:=by first|rfl|go_num):p:=h
theorem Tc{p:Prop}(h:p:=by rw [HHD.out];rfl):p:=h
theorem Td{p:Prop}(h:p:=by rw [HV.out];simp):p:=h
theorem Te{p:Prop}(h:p:=by rw [xX];exact Jb):p:=h
theorem Tf{p:Prop}(h:p:=by simp [h]):p:=h
theorem Tg{p:Prop}(h:p:=by rw [<-HR.out]):p:=h
theorem Th{p:Prop}(h:p:=by trivial):p:=h
theorem Ti{p:Prop}(h:p:=by rw [h]):p:=h
theorem Tj{p:Prop}(h:p:=by
 by_cases h1:e1=0
 ·have hv:R=e2:=by rw [hR,if_neg (fun h=>h h1)]
  clear hR;subst h1;have HV:=Nf hv;clear hv
  go_enter Tryz.func61,Tryz.ntmps61
  go_upto_region 15 with (first|(go_at_call 92;go_loud (refine(HB1.out _ Jb).mono ?_;rintro r w1 ⟨rfl,ac⟩)))
  refine Jo fun W0 ag=>?_;have aC:=Nd w W0 Uo;have z0:=Nb W0 w.heap.size 0 (.int .u32 m.ver) (by rw [ag];exact Ja ac Uq)
  have z1:=Nb W0 w.heap.size 1 (.int .u32 m.fro) (by rw [ag];exact Ja ac Uq)
  have z2:=Na W0 w.heap.size 2 m.eld (by rw [ag];exact Ja ac Uq)
  have z3:=Na W0 w.heap.size 3 m.fr.s (by rw [ag];exact Ja ac Uq)
  have z4:=Na W0 w.heap.size 4 m.fr.o (by rw [ag];exact Ja ac Uq)
  have z5:=Na W0 w.heap.size 5 m.fr.n (by rw [ag];exact Ja ac Uq)
  have z6:=Na W0 w.heap.size 6 m.fr.i (by rw [ag];exact Ja ac Uq)
  have z7:=Na W0 w.heap.size 7 m.fr.u (by rw [ag];exact Ja ac Uq)
  have z8:=Nb W0 w.heap.size 8 (.slice A1 m.first.length c1) (by rw [ag];exact Ja ac Uq)
  have z9:=Nb W0 w.heap.size 9 (.slice A2 m.step.length c2) (by rw [ag];exact Ja ac Uq)
  have z10:=Nb W0 w.heap.size 10 (.slice A3 m.move.length c3) (by rw [ag];exact Ja ac Uq)
  have z11:=Na W0 w.heap.size 11 m.sf (by rw [ag];exact Ja ac Uq)
  have z12:=Na W0 w.heap.size 12 m.mf (by rw [ag];exact Ja ac Uq)
  have hS:∀w',Below W0.heap.size W0 w'->w'.cell? ⟨w.heap.size,0,none⟩=some (.int .u32 m.ver)/\w'.cell? ⟨w.heap.size,1,none⟩=some (.int .u32 m.fro)/\w'.cell? ⟨w.heap.size,2,none⟩=some (.int .i64 m.eld)/\w'.cell? ⟨w.heap.size,3,none⟩=some (.int .i64 m.fr.s)/\w'.cell? ⟨w.heap.size,4,none⟩=some (.int .i64 m.fr.o)/\w'.cell? ⟨w.heap.size,5,none⟩=some (.int .i64 m.fr.n)/\w'.cell? ⟨w.heap.size,6,none⟩=some (.int .i64 m.fr.i)/\w'.cell? ⟨w.heap.size,7,none⟩=some (.int .i64 m.fr.u)/\w'.cell? ⟨w.heap.size,8,none⟩=some (.slice A1 m.first.length c1)/\w'.cell? ⟨w.heap.size,9,none⟩=some (.slice A2 m.step.length c2)/\w'.cell? ⟨w.heap.size,10,none⟩=some (.slice A3 m.move.length c3)/\w'.cell? ⟨w.heap.size,11,none⟩=some (.int .i64 m.sf)/\w'.cell? ⟨w.heap.size,12,none⟩=some (.int .i64 m.mf):=fun w' hb=>⟨Ja hb z0,Ja hb z1,Ja hb z2,Ja hb z3,Ja hb z4,Ja hb z5,Ja hb z6,Ja hb z7,Ja hb z8,Ja hb z9,Ja hb z10,Ja hb z11,Ja hb z12⟩;have HS:=Nf hS;have ar:=hS W0.drew (Jh (Nt));clear ag hS z0 z1 z2 z3 z4 z5 z6 z7 z8 z9 z10 z11 z12;refine Kd (fun w'=>w'.cell? ⟨w.heap.size,0,none⟩=some (.int .u32 m.ver)/\w'.cell? ⟨w.heap.size,1,none⟩=some (.int .u32 m.fro)/\w'.cell? ⟨w.heap.size,2,none⟩=some (.int .i64 m.eld)/\w'.cell? ⟨w.heap.size,3,none⟩=some (.int .i64 m.fr.s)/\w'.cell? ⟨w.heap.size,4,none⟩=some (.int .i64 m.fr.o)/\w'.cell? ⟨w.heap.size,5,none⟩=some (.int .i64 m.fr.n)/\w'.cell? ⟨w.heap.size,6,none⟩=some (.int .i64 m.fr.i)/\w'.cell? ⟨w.heap.size,7,none⟩=some (.int .i64 m.fr.u)/\w'.cell? ⟨w.heap.size,8,none⟩=some (.slice A1 m.first.length c1)/\w'.cell? ⟨w.heap.size,9,none⟩=some (.slice A2 m.step.length c2)/\w'.cell? ⟨w.heap.size,10,none⟩=some (.slice A3 m.move.length c3)/\w'.cell? ⟨w.heap.size,11,none⟩=some (.int .i64 m.sf)/\w'.cell? ⟨w.heap.size,12,none⟩=some (.int .i64 m.mf)) 7 1 Ug Gd ?_;simp only [List.size_toArray,Nl,Nm,Nat.zero_add,Nat.reduceAdd];refine Ji 0 ar ?_;refine Ji 1 ar ?_;refine Ji 2 ar ?_;refine Ji 4 ar ?_;refine Ji 5 ar ?_;refine Kb 3 ?_;refine Jj fun K hK=>?_;go_simp;refine(HMV.out _).mono ?_;rintro r w2 ⟨rfl,aq⟩;dsimp only;have cF:=Nd W0 w2 (Jd (Jh (Nt)) aq);refine hK _ _ ⟨HS.out w2 cF,?_⟩;clear hK K
  try simp only [Act.put,sa1,sa2,sa3]
  refine Kb 6 ?_;refine Jj fun K hK=>?_;go_simp;refine(HB2.out _ (Jd aC cF)).mono ?_;rintro r w3 ⟨rfl,aM⟩;dsimp only;have cZ:=Nd W0 w3 (Jd cF aM);refine hK _ _ ⟨HS.out w3 cZ,?_⟩;clear hK K
  try simp only [Act.put,sa1,sa2,sa3]
  refine Kh Ug ?_;refine Qx 7 ?_;refine Jj fun K hK=>?_;go_simp;refine hK _ _ ?_;clear hK K
  try simp only [Act.put,sa1,sa2,sa3]
  refine Ki Ug ?_
  go_wp2_with fail
  go_ret;exact⟨Jm HV.out.symm,Jd aC cZ⟩
 ·have hv:R=e1:=by rw [hR,if_pos h1]
  have t5:(e1 != 0)=true:=Lw;clear hR h1;have HV:=Nf hv;clear hv
  go_enter Tryz.func61,Tryz.ntmps61
  go_wp2_with (first|(go_at_call 92;go_loud (refine(HB1.out _ Jb).mono ?_;rintro r w1 ⟨rfl,ac⟩)))
  go_ret;exact⟨Jm HV.out.symm,Jb⟩):p:=h
theorem Tk{p:Prop}(h:p:=by
 by_cases hk:e.kind=7
 ·rw [if_pos hk] at hR;have ai:=Je8 hf hk;have tk:(e.kind == 7)=true:=Vw
  obtain⟨x,y,rX⟩:∃x y,e.sub = [x,y]:=by
   match h:e.sub,ai with
   | [x,y],_=>exact⟨x,y,rfl⟩
  have HX0:=Nf (by rw [rX];rfl:e.sub[0]?=some x);have aj:x∈e.sub:=by rw [rX];simp
  have HB:=Nf (by rw [hR,rX];rfl:x.reach (inL l)=R);have eb:0<e.sub.length:=Ua;clear hk rX hR ai
  go_enter Tryz.func82,Tryz.ntmps82
  go_wp2_with (first|(go_at_call 54;refine(Yu l AL capL e.name _ (hl.later Jb)).mono ?_;rw [HH.out];rintro r wh ⟨rfl,dX⟩;have fJ:=Jg dX;have nX:w.heap.size+1<=wh.heap.size:=Lo;have iZ:=lt0 w wh))
  refine Jo fun W0 ag=>?_;have ax:=Nd w W0 Uo;have bD:w.heap.size<W0.heap.size:=Fo;have p3:=Nb W0 w.heap.size 3 (.slice A e.sub.length cap) Uc;clear ag
  go_loopw [6] (fun i wr=>((i = .int .i64 0)\/(i = .int .i64 1/\Hid (false=R)))/\Below W0.heap.size W0 wr) (fun i _=>1-(intOf i).toNat)
  case atStart=>exact⟨.inl rfl,Nt⟩
  case round=>
   obtain⟨hi,ab⟩:=hrel;have aC:=Nd w wr (Jn ax ab Ua);have hc:=Jg ab;have bu:=ab.size
   rcases hi with rfl|⟨rfl,HR⟩
   ·obtain⟨b,off,A',cap',rfl,c0,c1,c2,c3,hs⟩:=(he.later aC).get HX0.out;rw [Nat.zero_mul,Nat.add_zero] at c0 c1 c2 c3;have ihx:=ih x aj;have gW:=Q9 hf x aj
    cases dC:x.reach (inL l)
    ·have gg:=Nf dC;have HR:Hid (false=R):=Nf Sd;clear dC
     go_wp2_with (first|(go_at_call 82;go_loud (refine(ihx A' cap' AL capL _ (hs.later Jb) (hl.later Jb) gW).mono ?_;rw [gg.out];rintro r w1 ⟨rfl,ac⟩)))
     go_roundw
     case rel=>exact⟨.inr ⟨Tb,HR⟩,Jb⟩
     case measure=>simp [intOf];try omega
    ·have gg:=Nf dC;have HR:Hid (true=R):=Nf Sd;clear dC
     go_wp2_with (first|(go_at_call 82;go_loud (refine(ihx A' cap' AL capL _ (hs.later Jb) (hl.later Jb) gW).mono ?_;rw [gg.out];rintro r w1 ⟨rfl,ac⟩)))
     go_ret;exact⟨Jk HR.out,Jb⟩
   ·go_wp2_with fail
    go_ret;exact⟨Jk HR.out,Jb⟩
 ·rw [if_neg hk] at hR;have tk:(e.kind == 7)=false:=Vw;have HB:=Nf (by rw [hR];rfl:Ex.reachL (inL l) (e.sub.drop 0)=R);clear hk hR
  go_enter Tryz.func82,Tryz.ntmps82
  go_wp2_with (first|(go_at_call 54;refine(Yu l AL capL e.name _ (hl.later Jb)).mono ?_;rw [HH.out];rintro r wh ⟨rfl,dX⟩;have fJ:=Jg dX;have nX:w.heap.size+1<=wh.heap.size:=Lo;have iZ:=lt0 w wh))
  refine Jo fun W0 ag=>?_;have ax:=Nd w W0 Uo;have bD:w.heap.size<W0.heap.size:=Fo;have p3:=Nb W0 w.heap.size 3 (.slice A e.sub.length cap) Uc;clear ag
  go_loopw [6] (fun i wr=>∃k:Nat,k<=e.sub.length/\i = .int .i64 k/\Hid (Ex.reachL (inL l) (e.sub.drop k)=R)/\Below W0.heap.size W0 wr) (fun i _=>e.sub.length-(intOf i).toNat)
  case atStart=>exact⟨0,Np,rfl,HB,Nt⟩
  case round=>
   obtain⟨k,hk,rfl,aa,ab⟩:=hrel;have aC:=Nd w wr (Jn ax ab Ua);have hc:=Jg ab;have bu:=ab.size
   by_cases am:k<e.sub.length
   ·have hx:e.sub[k]?=some e.sub[k]:=Ng am;have aj:e.sub[k]∈e.sub:=Nj am;have hd:e.sub.drop k=e.sub[k] :: e.sub.drop (k+1):=No am;generalize e.sub[k]=x at hx aj hd;obtain⟨b,off,A',cap',rfl,c0,c1,c2,c3,hs⟩:=(he.later aC).get hx;have ihx:=ih x aj;have gW:=Q9 hf x aj;have hr:=aa.out;rw [hd,Ex.reachL] at hr;clear hd hx aj aa
    cases dC:x.reach (inL l)
    ·rw [dC,Bool.false_or] at hr;have gg:=Nf dC;have HR:=Nf hr;clear dC hr
     go_wp2_with (first|(go_at_call 82;go_loud (refine(ihx A' cap' AL capL _ (hs.later Jb) (hl.later Jb) gW).mono ?_;rw [gg.out];rintro r w1 ⟨rfl,ac⟩)))
     go_roundw
     case rel=>exact⟨k+1,Ua,Up,HR,Jb⟩
     case measure=>simp [intOf];try omega
    ·rw [dC,Bool.true_or] at hr;have gg:=Nf dC;have HR:=Nf hr;clear dC hr
     go_wp2_with (first|(go_at_call 82;go_loud (refine(ihx A' cap' AL capL _ (hs.later Jb) (hl.later Jb) gW).mono ?_;rw [gg.out];rintro r w1 ⟨rfl,ac⟩)))
     go_ret;exact⟨Jk HR.out,Jb⟩
   ·obtain rfl:k=e.sub.length:=Ua;have hr:=aa.out;rw [Nn,Ex.reachL] at hr;have HR:=Nf hr;clear hr aa
    go_wp2_with fail
    go_ret;exact⟨Jk HR.out,Jb⟩):p:=h
theorem Ts{p:Prop}(h:p:=by
 go_wp2_with (first|(at_lookup;go_loud (refine Qh rfl (.tmp 53) (.tmp 55) 116 rfl Tryz.underlying9 Tryz.underlying116 Tryz.underlying3 (Kj _) (wa.heap.size+1) n f q.name rfl ((ej.keep1 (heap_alloc_old _ _ dW)).plain) rfl dn ?_;rw [rb.out];simp only [Option.getD_none,Option.isSome_none,Option.getD_some,Option.isSome_some]))|(go_at_call 47;go_loud (refine(Jf0 (nd q) Ar cr (wa.heap.size+1) n f _ (kq.later Jb) ((ej.keep1 (heap_alloc_old _ _ dW)).plain) lg).mono ?_;rw [HRD.out];rintro r wy ⟨rfl,gl⟩;have hcy:=Jg gl;have hfy:=Jf gl;have hzy:wr.heap.size+1<=wy.heap.size:=Gf;have hyy:=lt0 w wy;have pu:=ltA w 1 wy))|(at_builtin;go_loud (refine Z2 rfl (.tmp 81) (.tmp 83) 77 rfl wn.heap.size 3 _ 1 8 Tryz.underlying77 Zd rfl Ua (.slice B out.length bc) out.length (out.map (.int .i64)) _ 1 1 [.int .i64 (k:Int)] rfl (Js (Jy (Js (Jy iX.out dB)) gl)) rfl rfl (fun j u hj=>U9) Uv Ua Ua Uj ?_;intro v4 w4 cj cg hor4;have kt:=Yz (Qn (Qn (Qn (Qn bB.out (Jat dB)) (World.grownBy_alloc _ _ _)) (Jat gl)) (World.grownBy_alloc _ _ _)) cg (.inr fun k hk=>(iX.out.lt k hk).1);have sS:=hm.out.keep1 (((cg.block (wa.heap.size+1) Uj (fun e=>by have:=(iX.out.lt _ e.symm).1;omega)).trans ((heap_alloc_old _ _ Ua).trans ((gl.block (wa.heap.size+1) Uj).trans (heap_alloc_old _ _ Ua)))).trans (dB.block (wa.heap.size+1) Ua));have vI:=Nd w w4 (J2 vF kt (fun b hb=>U1) Ua);have vJ:Below (wa.heap.size+1) W0 w4:=J2 vG kt (fun b hb=>U1) Ua;have wA:=Jdu vJ;have qS:wn.heap.size<=w4.heap.size:=kt.size;have gq4:=(bT.later vI).nameCell HX.out;obtain⟨A4',cv4,rfl,it,iu⟩:=Jv cj))|(at_delete;go_loud (refine Jjl rfl (.tmp 85) (.tmp 91) 116 rfl Tryz.underlying9 Tryz.underlying116 (wa.heap.size+1) n f (c+1) q.name rfl sS rfl dn ?_;intro w5 c5 hm5 vL eT;rw [rb.out] at vL;simp only [Option.isSome_some,if_true] at vL;simp only [Act.put])))
 go_roundw
 case rel=>
  obtain rfl:c5=c:=Ua;exact⟨_,Jck f q.name,A4',cv4,out ++ [(k:Int)],Uj,Ul,Nf hm5,HV,Nf (by rw [List.map_append,Nk];exact cj.kept eT (Jq7 cj.lt Ua)),Nf (Qn kt eT)⟩
 case measure=>simp [Jfh];try omega):p:=h
theorem Tu{p:Prop}(h:p:=by
 go_loopw [0,5] (fun u0 i wr=>∃(k:Nat) (V1:Value) (l2:List ByteArray),k<=e.sub.length/\i = .int .i64 k/\u0=V1/\Ex.namedL l2 (e.sub.drop k)=e.named l/\wr.ownsRow w0.heap.size 9 1 V1 l2.length (l2.map .string)/\(V1.ownBlock=(Value.slice Av l.length cv).ownBlock\/∀b,V1.ownBlock=some b->W.heap.size<b)/\W.grownBy wr (Value.slice Av l.length cv).ownBlock/\wr.cell? ⟨W.heap.size,3,none⟩=some (.slice Ae e.sub.length ce)/\W.heap.size<wr.heap.size/\l2.length+Ex.sizeL (e.sub.drop k)<=1000000) (fun _ i _=>e.sub.length-(intOf i).toNat)
 case atStart=>exact⟨0,_,(l),Np,rfl,rfl,D2,eo,iW,qj,ss,bD,Vm⟩
 case round=>
  obtain⟨k,V1,l2,hk,rfl,rfl,aa,ed,ch,cK,aN,vu,kn⟩:=hrel;obtain⟨Ak,cvk,rfl,cD,dz⟩:=Jv ed
  by_cases am:k<e.sub.length
  ·have hx:e.sub[k]?=some e.sub[k]:=Ng am;have aj:e.sub[k]∈e.sub:=Nj am;have hd:e.sub.drop k=e.sub[k] :: e.sub.drop (k+1):=No am;generalize e.sub[k]=x at hx aj hd;have aC:=Nd w0 wr (J2 dZ cK (fun b hb=>(kS.out b hb).1) Ua);obtain⟨b,off,A',cap',rfl,c0,c1,c2,c3,hs⟩:=he.get hx;have c0':=Ja aC c0;have c1':=Ja aC c1;have c2':=Ja aC c2;have c3':=Ja aC c3;rw [hd,Ex.namedL] at aa;rw [hd,Ex.sizeL] at kn;have jV:=Ex.named_len x l2;have az:=ih x aj A' cap' hs wr _ l2 aC ed Ua;unfold exV at az;have HR:=Nf aa;have fO:=Nf ch;have qk:=Nf cK;clear aa hd hx c0 c1 c2 c3 ch cK
   go_wp2_with (first|(go_at_call 121;refine az.mono ?_;rintro r w3 ⟨⟨v3,rfl,aE,fv⟩,bJ⟩))
   go_roundw
   case rel=>
    have kI:=bJ.size;refine⟨k+1,_,x.named l2,Ua,Up,rfl,HR.out,aE,?_,?_,HK.out _ _ _ fO.out bJ vu _ aN,Ua,Ua⟩
    ·rcases fv with h3|h3
     ·rw [h3];exact fO.out
     ·exact .inr fun b hb=>by have:=h3 b hb;omega
    ·refine Yz qk.out bJ ?_
     rcases fO.out with h|h
     ·exact .inl h
     ·exact .inr fun b hb=>Df
   case measure=>simp [intOf];omega
  ·obtain rfl:k=e.sub.length:=Ua;rw [Nn,Ex.namedL] at aa;subst aa;have qk:=Nf cK;have fO:=Nf ch;clear cK ch
   go_wp2_with fail
   go_ret;exact⟨⟨_,rfl,ed,fO.out.imp id fun h b hb=>Df⟩,qk.out⟩):p:=h
theorem Tv{p:Prop}(h:p:=by
 go_enter Tryz.func81,Tryz.ntmps81
 go_wp2_with (first|(go_at_call 82;go_loud (refine(iN _ Jb).mono ?_;rw [lv.out];rintro r wh ⟨rfl,dX⟩;have fJ:=Jg dX;have nX:w.heap.size+1<=wh.heap.size:=Lo;have iZ:=lt0 w wh)))
 refine Jo fun W0 ag=>?_;have ax:=Nd w W0 Uo;have bD:w.heap.size<W0.heap.size:=Fo;have p3:=Nb W0 w.heap.size 3 (.slice A e.sub.length cap) Uc;clear ag
 go_loopw [5] (fun i wr=>∃k:Nat,k<=e.sub.length/\i = .int .i64 k/\Hid (Ex.tornL (inL l) (e.sub.drop k)=R)/\Below W0.heap.size W0 wr) (fun i _=>e.sub.length-(intOf i).toNat)
 case atStart=>exact⟨0,Np,rfl,HB,Nt⟩
 case round=>
  obtain⟨k,hk,rfl,aa,ab⟩:=hrel;have aC:=Nd w wr (Jn ax ab Ua);have hc:=Jg ab;have bu:=ab.size
  by_cases am:k<e.sub.length
  ·have hx:e.sub[k]?=some e.sub[k]:=Ng am;have aj:e.sub[k]∈e.sub:=Nj am;have hd:e.sub.drop k=e.sub[k] :: e.sub.drop (k+1):=No am;generalize e.sub[k]=x at hx aj hd;obtain⟨b,off,A',cap',rfl,c0,c1,c2,c3,hs⟩:=(he.later aC).get hx;have ihx:=ih x aj;have gW:=Q9 hf x aj;have hr:=aa.out;rw [hd,Ex.tornL] at hr;clear hd hx aj aa
   cases dC:x.torn (inL l)
   ·rw [dC,Bool.false_or] at hr;have gg:=Nf dC;have HR:=Nf hr;clear dC hr
    go_wp2_with (first|(go_at_call 81;go_loud (refine(ihx A' cap' AL capL _ (hs.later Jb) (hl.later Jb) gW).mono ?_;rw [gg.out];rintro r w1 ⟨rfl,ac⟩)))
    go_roundw
    case rel=>exact⟨k+1,Ua,Up,HR,Jb⟩
    case measure=>simp [intOf];try omega
   ·rw [dC,Bool.true_or] at hr;have gg:=Nf dC;have HR:=Nf hr;clear dC hr
    go_wp2_with (first|(go_at_call 81;go_loud (refine(ihx A' cap' AL capL _ (hs.later Jb) (hl.later Jb) gW).mono ?_;rw [gg.out];rintro r w1 ⟨rfl,ac⟩)))
    go_ret;exact⟨Jk HR.out,Jb⟩
  ·obtain rfl:k=e.sub.length:=Ua;have hr:=aa.out;rw [Nn,Ex.tornL] at hr;have HR:=Nf hr;clear hr aa
   go_wp2_with fail
   go_ret;exact⟨Jk HR.out,Jb⟩):p:=h
theorem Tw{p:Prop}(h:p:=by
 go_enter Tryz.func109,Tryz.ntmps109
 go_wp2_with (first|(go_at_call 108;go_loud (refine(eY _ Jb).mono ?_;rw [lv.out];rintro r wh ⟨rfl,dX⟩;have fJ:=Jg dX;have nX:w.heap.size+1<=wh.heap.size:=Lo;have iZ:=lt0 w wh)))
 refine Jo fun W0 ag=>?_;have ax:=Nd w W0 Uo;clear ag
 go_loopw [18] (fun i wr=>∃k:Nat,k<=e.sub.length/\i = .int .i64 k/\Hid (Ex.tornL (onM f) (e.sub.drop k)=R)/\Below w.heap.size w wr) (fun i _=>e.sub.length-(intOf i).toNat)
 case atStart=>exact⟨0,Np,rfl,HB,ax⟩
 case round=>
  obtain⟨k,hk,rfl,aa,ab⟩:=hrel;have bu:=ab.size
  by_cases am:k<e.sub.length
  ·have hx:e.sub[k]?=some e.sub[k]:=Ng am;have aj:e.sub[k]∈e.sub:=Nj am;have hd:e.sub.drop k=e.sub[k] :: e.sub.drop (k+1):=No am;generalize e.sub[k]=x at hx aj hd;obtain⟨b,off,A',cap',rfl,c0,c1,c2,c3,hs⟩:=(he.later ab).get hx;have ihx:=ih x aj;have gW:=Q9 hf x aj;have jz:=Ex.OKL_mem hoks x aj;have hxz:x.size<=1000000:=by have:=Ex.size_mem _ _ _ hx;omega
   have hr:=aa.out;rw [hd,Ex.tornL] at hr;clear hd hx aj aa
   cases dC:x.torn (onM f)
   ·rw [dC,Bool.false_or] at hr;have gg:=Nf dC;have HR:=Nf hr;clear dC hr
    go_wp2_with (first|(go_at_call 109;go_loud (refine(ihx A' cap' _ (hs.later Jb) gW jz hxz (hm.bel Jb)).mono ?_;rw [gg.out];rintro r w1 ⟨rfl,ac⟩)))
    go_roundw
    case rel=>exact⟨k+1,Ua,Up,HR,Jb⟩
    case measure=>simp [intOf];try omega
   ·rw [dC,Bool.true_or] at hr;have gg:=Nf dC;have HR:=Nf hr;clear dC hr
    go_wp2_with (first|(go_at_call 109;go_loud (refine(ihx A' cap' _ (hs.later Jb) gW jz hxz (hm.bel Jb)).mono ?_;rw [gg.out];rintro r w1 ⟨rfl,ac⟩)))
    go_ret;exact⟨Jk HR.out,Jb⟩
  ·obtain rfl:k=e.sub.length:=Ua;have hr:=aa.out;rw [Nn,Ex.tornL] at hr;have HR:=Nf hr;clear hr aa
   go_wp2_with fail
   go_ret;exact⟨Jk HR.out,Jb⟩):p:=h
theorem Tx{p:Prop}(h:p:=by
 obtain⟨k,V,l2,d2,n2,N2,hk,rfl,aa,cV,ch,dK,ac,aq,aM⟩:=hrel;have cX:=Nd w0 wr (Jd2 (base:=base) dZ dK m1 m2 (fun b hb=>Si));have hkz:=dK.size;have hbsz:=cV.size
 by_cases am:k<e.sub.length
 ·have hx:e.sub[k]?=some e.sub[k]:=Ng am;have aj:e.sub[k]∈e.sub:=Nj am;have hd:e.sub.drop k=e.sub[k] :: e.sub.drop (k+1):=No am;generalize e.sub[k]=x at hx aj hd;obtain⟨b,off,A',cap',rfl,x0,x1,x2,x3,hs⟩:=he.get hx;have x0':=Ja cX x0;have x1':=Ja cX x1;have x2':=Ja cX x2;have x3':=Ja cX x3;have hwk:=cV.walk;unfold Jg0 at hwk;have hbwz:bw<wr.heap.size:=Ua;rw [hd,Ex.namedL] at aa;rw [hd,Ex.sizeL] at ac aq aM;have jV:=Ex.named_len x l2;have az:=fun W' (lE:Below wr.heap.size wr W')=>ih x aj A' cap' hs W' V l2 d2 n2 N2 (cX.trans (lE.mono cX.size)) (cV.keep (fun k hk=>lE.block k hk) lE.size) Ua Ua Ua;have cJ:=Nf cV;have HR:=Nf aa;have fO:=Nf ch;have jy:=Nf dK;clear aa hd hx x0 x1 x2 x3 ch dK cV
  go_wp2_with (first|(go_at_call 116;go_loud (refine(az _ Jb).mono ?_;rintro r w3 ⟨rfl,⟨v3,d3,n3,ft,sR,fv⟩,ja⟩)))
  go_roundw
  case rel=>
   have kI:=ja.size;refine⟨k+1,v3,x.named l2,d3,n3,N2+x.size,Ua,Up,HR.out,ft,?_,?_,Ua,Ua,Ua⟩
   ·rcases fv with h3|h3
    ·rw [h3];exact fO.out
    ·exact .inr fun b hb=>Fq
   ·refine jy.out.trans (Chg.trans (Chg.bel (Jc (Nt) _)) ja (.inl rfl)) ?_;exact fO.out
  case measure=>simp [intOf];omega
 ·obtain rfl:k=e.sub.length:=Ua;rw [Nn,Ex.namedL] at aa;rw [Nn,Ex.sizeL] at ac aq aM;subst aa;have cJ:=Nf cV;have fO:=Nf ch;have jy:=Nf dK;clear ch dK cV
  go_wp2_with fail
  go_end0
  exact⟨rfl,⟨V,d2,n2,⟨cJ.out.seen,cJ.out.map,cJ.out.out,cJ.out.outf,cJ.out.walk,cJ.out.own,Jg6 cJ.out.cnt Ua,cJ.out.size⟩,Ua,fO.out⟩,jy.out⟩):p:=h
theorem Tz{p:Prop}(h:p:=by
 obtain⟨k,n2,cnt2,f2,l2,hk,rfl,pX,gI,aa,qW,bB⟩:=hrel;have bu:=bB.out.size;have bV:=ltA W 1 wr;have gB:=Nd w0 W1 (J2 dZ kX.out (fun b hb=>U1) dZ.size);have aC:=Nd w0 wr (J2 gB bB.out (fun b hb=>U1) gB.size);have d0':=Jr (a:=⟨W.heap.size+1,0,none⟩) (bB.out.block (W.heap.size+1) Ua Uj) d0;have d1':=Jr (a:=⟨W.heap.size+1,1,none⟩) (bB.out.block (W.heap.size+1) Ua Uj) d1
 by_cases am:k<e.sub.length
 ·have hx:e.sub[k]?=some e.sub[k]:=Ng am;have aj:e.sub[k]∈e.sub:=Nj am;have hd:e.sub.drop k=e.sub[k] :: e.sub.drop (k+1):=No am;generalize e.sub[k]=x at hx aj hd;obtain⟨b,off,A',cap',rfl,c0,c1,c2,c3,hs⟩:=he.get hx;have c0':=Ja aC c0;have c1':=Ja aC c1;have c2':=Ja aC c2;have c3':=Ja aC c3;have hr:=aa.out;rw [hd,Ex.arrsL,lD] at hr;rw [hd,Ex.sizeL] at qW;have az:=fun W' (gr:Below wr.heap.size wr W')=>ih x aj A' cap' (ck,cs) hs lq W' n2 f2 cnt2 l2 (aC.trans (gr.mono aC.size)) (pX.out.bel gr) gI.out Ua;unfold exV kvC at az;dsimp only at az;have HR:=Nf hr;clear hr aa hd hx c0 c1 c2 c3
  go_wp2_with (first|(go_at_call 72;go_loud (refine(az _ Jb).mono ?_;rintro r w3 ⟨rfl,⟨n3,f3,cnt3,kV,sR,iT⟩,bJ⟩)))
  go_roundw
  case rel=>exact⟨k+1,n3,cnt3,f3,x.arrs l2 (ck,cs),Ua,Up,Nf kV,Nf iT,HR,Ua,Nf (Kv bB.out (Kv (K0 (Jc (Nt) _)) bJ))⟩
  case measure=>simp [intOf];omega
 ·obtain rfl:k=e.sub.length:=Ua;have hr:=aa.out;rw [Nn,Ex.arrsL] at hr;rw [Nn] at qW;clear aa;have HR:=Nf hr;clear hr
  go_wp2_with fail
  go_end0
  exact⟨rfl,⟨n2,f2,cnt2,pX.out,Ua,by rw [HR.out];exact gI.out⟩,Kv kX.out bB.out⟩):p:=h
theorem T3{p:Prop}(h:p:=by
 rw [hk] at hv;clear hk h0;have HV:=Nf hv;clear hv;have ai:=he.len;unfold maxLen at ai;obtain⟨bI,aD⟩:=ai;have hT:=Nf (show Ku [] (Ex.typL l (e.sub.drop 0))=Ex.typL l e.sub from Xq _ (Yb l e.sub));unfold exV
 go_enter Tryz.func160,Tryz.ntmps160
 go_wp2_with fail
 refine Jo fun W0 ag=>?_;have ax:=Nd w W0 Uo;have bD:w.heap.size<W0.heap.size:=Us;have p0:=Na W0 w.heap.size 0 e.kind Uc;have p1:=Nb W0 w.heap.size 1 (.int .i32 e.n) Uc;have p2:=Nb W0 w.heap.size 2 (.string e.name) Uc;have p3:=Nb W0 w.heap.size 3 (.slice Ae e.sub.length ce) Uc;clear ag;replace he:=he.later ax;replace hl:=hl.later ax
 go_loopw [6,7] (fun v i wr=>∃(k:Nat) (acc:List Int),k<=e.sub.length/\i = .int .i64 k/\acc.length=k/\wr.ownsRow W0.heap.size 3 1 v k (acc.map (Value.int .i64))/\Ku acc (Ex.typL l (e.sub.drop k))=Ex.typL l e.sub/\Below W0.heap.size W0 wr) (fun _ i _=>e.sub.length-(intOf i).toNat)
 case atStart=>exact⟨0,[],Np,rfl,rfl,Nw,hT.out,Nt⟩
 case round=>
  obtain⟨k,acc,hk,rfl,aR,ae,aa,ab⟩:=hrel;have hc:=Jg ab;have bu:=ab.size;have af:=lt0 w wr;have dt:=Nf aR;clear aR;have am:¬k<e.sub.length:=Ua;have iP:k=e.sub.length:=Ua;have HK:=Nf iP;clear iP aa ae
  go_wp2_with fail
  go_ret2
  exact⟨Fj,Jb⟩):p:=h
theorem T8{p:Prop}(h:p:=by
 rw [if_neg Ua] at ek;rw [ek] at aa;simp only [Bool.false_and,Bool.and_false] at aa;clear ek js;generalize q.e.right=er at *
 cases bn <;>
 ·have HR:=Nf aa;clear aa
  go_wp2_with (first|(go_at_call 154;refine(aL _).mono ?_;rintro r wa ⟨rfl,aA⟩;have aW:=Jg aA;have cN:=aA.size;(try simp at cN);have dG:=lt0 w wa;have aX:=lt0 wr wa)|(go_at_call 33;refine(bF _ Jb).mono ?_;rintro r wb ⟨rfl,gz⟩;have el:=Jg gz;have dH:=gz.size;(try simp at dH);have cA:=lt0 w wb;have ep:=lt0 wr wb)|(go_at_call 156;refine(cU _ Jb).mono ?_;rintro r wc ⟨rfl,bU⟩;have cB:=Jg bU;have iG:=bU.size;(try simp at iG);have kh:=lt0 w wc;have mo:=lt0 wr wc)|(go_at_call 119;refine(lm _ Jb).mono ?_;rintro r wd ⟨rfl,ct⟩;have jK:=Jg ct;have ir:=ct.size;(try simp at ir);have ly:=lt0 w wd))
  first
   | (go_ret;exact⟨Jk HR.out,Jb⟩)
   | (
     go_roundw
     case rel=>exact⟨k+1,Ua,Up,HR.out,Jb⟩
     case measure=>simp [intOf];omega)):p:=h
theorem Be{p:Prop}(h:p:=by
 have HR:=Nf aa;clear aa
 go_wp2_with (first|(go_at_call 154;refine(aL _).mono ?_;rintro r wa ⟨rfl,aA⟩;have aW:=Jg aA;have cN:=aA.size;(try simp at cN);have dG:=lt0 w wa;have aX:=lt0 wr wa)|(go_at_call 33;refine(bF _ Jb).mono ?_;rintro r wb ⟨rfl,gz⟩;have el:=Jg gz;have dH:=gz.size;(try simp at dH);have cA:=lt0 w wb;have ep:=lt0 wr wb)|(go_at_call 156;refine(cU _ Jb).mono ?_;rintro r wc ⟨rfl,bU⟩;have cB:=Jg bU;have iG:=bU.size;(try simp at iG);have kh:=lt0 w wc;have mo:=lt0 wr wc)|(go_at_call 119;refine(lm _ Jb).mono ?_;rintro r wd ⟨rfl,ct⟩;have jK:=Jg ct;have ir:=ct.size;(try simp at ir);have ly:=lt0 w wd))
 first
  | (go_ret;exact⟨Jk HR.out,Jb⟩)
  | (
    go_roundw
    case rel=>exact⟨k+1,Ua,Up,HR.out,Jb⟩
    case measure=>simp [intOf];omega)):p:=h
theorem Bg{p:Prop}(h:p:=by
 simp only [Bool.false_and,Bool.and_false] at hv;have HV:=Nf hv;clear hv
 go_enter Tryz.func133,Tryz.ntmps133
 go_wp2_with (first|(go_at_call_of 154 (Value.string p.name);refine(hn _).mono ?_;rintro r wa ⟨rfl,aA⟩;have aW:=Jg aA;have cN:=aA.size;(try simp at cN);have dG:=lt0 w wa)|(go_at_call_of 155 (Value.slice A1 p.ins.length c1);refine(fC _ Jb).mono ?_;rintro r wb ⟨rfl,aH⟩;have el:=Jg aH;have dH:=aH.size;have cA:=lt0 w wb)|(go_at_call_of 155 (Value.slice A2 p.outs.length c2);refine(aI _ Jb).mono ?_;rintro r wc ⟨rfl,bU⟩;have cB:=Jg bU;have iG:=bU.size;have kh:=lt0 w wc)|(go_at_call_of 155 (Value.slice A3 p.locals.length c3);refine(iM _ Jb).mono ?_;rintro r wd ⟨rfl,ct⟩;have jK:=Jg ct;have ir:=ct.size;have ly:=lt0 w wd))
 go_ret;exact⟨Jk HV.out.symm,Jb⟩):p:=h
theorem Bh{p:Prop}(h:p:=by
 have HV:=Nf hv;clear hv
 go_enter Tryz.func75,Tryz.ntmps75
 go_wp2_with (first|(go_at_call 110;refine(bN _ Jb).mono ?_;rintro r wa ⟨rfl,aA⟩;have aW:=Jg aA;have bS:=Jf aA;have cN:w.heap.size+2<=wa.heap.size:=Ut;have dG:=lt0 w wa;have mj:=ltA w 1 wa)|(go_at_call 42;refine(aJ _ Jb).mono ?_;rintro r wb ⟨⟨A,cap,rfl,ae⟩,aH⟩;have el:=Jg aH;have mJ:=Jf aH;have dH:=aH.size;have cA:=lt0 w wb;have mm:=ltA w 1 wb;have cR:=Ju.of_own ae)|(go_at_call 111;refine(aO _ _ _ (cR.later Jb)).mono ?_;rintro r wc ⟨⟨B,rfl,hB,kg⟩,bU⟩;have cB:=Jg bU;have eB:=Jf bU;have iG:=bU.size;have kh:=lt0 w wc;have uE:=ltA w 1 wc))
 refine Nv (v:= .agg #[.int .i64 (4),.int .i64 (0),.int .i64 (3)]) Vy rfl ⟨Vp,?_⟩;exact Km):p:=h
theorem Bn{p:Prop}(h:p:=by
 refine Kb 11 ?_;refine Jj fun K hK=>?_;go_simp;refine(kT.out _ _ (Jka _ _ _ rfl)).mono ?_;rintro r wz ⟨⟨v,rfl,ae⟩,gt⟩;dsimp only;have cF:=Nd W0 wz (Jd (Jc cT _) gt);refine hK _ _ ⟨HS.out wz cF,?_⟩;clear hK K
 try simp only [Act.put,sa1,sa2,sa3]
 have dk:=HS.out wz cF;refine Ji 12 dk ?_;refine Ji 13 dk ?_;refine Kh Ug ?_;refine Qx 14 ?_;refine Jj fun K hK=>?_;go_simp;refine hK _ _ ?_;clear hK K
 try simp only [Act.put,sa1,sa2,sa3]
 refine Qx 15 ?_;refine Jj fun K hK=>?_;go_simp;refine hK _ _ ?_;clear hK K
 try simp only [Act.put,sa1,sa2,sa3]
 refine Ki Ug ?_;have jh:=Nd w wz (Jd aC cF);have fN:=K8 ae (show w.heap.size<=_ by first|omega|(simp;omega));clear ar dr dk kT
 go_wp2_with fail
 go_ret2
 exact⟨⟨_,rfl,fN⟩,jh⟩):p:=h
theorem Bo{p:Prop}(h:p:=by
 go_wp2_with (first|(go_at_call_of 85 (Value.string x.name);refine(fk _).mono ?_;rintro r w1 ⟨rfl,ac⟩;have ak:=Jg ac;have db:=Jf ac;have af:=ac.size;have bV:=lt0 w w1;have gq:=ltA w 1 w1;have ow:b<w1.heap.size:=Ua)|(go_at_call 49;refine(ap _ Jb).mono ?_;rintro r w2 ⟨rfl,aq⟩;have dm:=Jg aq;have gO:=Jf aq;have br:=aq.size;have ns:=lt0 w w2;have nt:=ltA w 1 w2;have lH:b<w2.heap.size:=Ua)|(go_at_call 85;refine(bU _).mono ?_;rintro r w3 ⟨rfl,aM⟩;have kE:=Jg aM;have tx:=Jf aM;have fe:=aM.size;have xd:=lt0 w w3;have hy8:=ltA w 1 w3))
 go_roundw
 case rel=>exact⟨k+1,Ua,Up,HR.out,Jb⟩
 case measure=>simp [intOf];omega):p:=h
theorem Bq{p:Prop}(h:p:=by
 rw [if_pos eD] at aa;have hv:Qg p=(3,(k:Int),de):=Fk;have t1:(de != 0)=true:=G8;clear aa eD;have HV:=Nf hv;clear hv
 go_wp2_with (first|(go_at_call 77;refine(ap _ Jb).mono ?_;rintro r w1 ⟨rfl,ac⟩;have ak:=Jg ac;have db:=Jf ac;have eI:=ac.size;(try simp at eI);have bV:=lt0 w w1;have gq:=ltA w 1 w1;have ow:=lt0 wr w1)|(go_at_call 78;refine(ix _ Jb).mono ?_;rintro r w2 ⟨rfl,aq⟩;have dm:=Jg aq;have gO:=Jf aq;have kG:=aq.size;(try simp at kG);have ns:=lt0 w w2;have nt:=ltA w 1 w2))
 refine Nv (v:= .agg #[.int .i64 (3),.int .i64 ((k:Int)),.int .i64 (de)]) L5 rfl ⟨Vp,?_⟩;exact Km):p:=h
theorem Bu{p:Prop}(h:p:=by
 go_wp2_with fail
 refine Jx Ug Ug (fun bj=>?_)
 repeat (quiet_step ((first|(go_at_call_of 16 B1;exact Calls.regrown_of (ii _ Jb))|(go_at_call_of 16 B2;exact Calls.regrown_of (gL _ Jb)))))
 refine wpQuiet_nil ?_;intro wq au;replace au:=qbo au;obtain⟨au,dA,bh⟩:=au;clear bj
 (try simp at bh)
 have wB:=lt0 w wq;have uN:b<wq.heap.size:=Ua
 go_wp2_with (first|(go_at_call_of 16 B1;refine(ii _ Jb).mono ?_;rintro r wa ⟨rfl,aA⟩;have aW:=Jg aA;have cN:=aA.size;have dG:=lt0 w wa)|(go_at_call_of 16 B2;refine(gL _ Jb).mono ?_;rintro r wb ⟨rfl,aH⟩;have el:=Jg aH;have dH:=aH.size;have cA:=lt0 w wb))
 go_ret;exact⟨Jas.no _,Jb⟩):p:=h
theorem Bv{p:Prop}(h:p:=by
 obtain⟨u0,rfl⟩:=Jet (lX.trans hl);obtain⟨q0,rfl⟩:=Jet (jW.out.trans hl);have hv:e.gen (Jp L) (Kg C) (ck,cs)=q0:=Vx;have t1:(e.kind == 1)=false:=Ud;have t2:(e.kind == 2)=false:=Ud;have t3:(e.kind == 3)=false:=Ud;have t4:(e.kind == 4)=false:=Ud;have t5:(e.kind == 5)=false:=Ud;have t6:(e.kind == 6)=false:=Ud;have t7:(e.kind == 7)=false:=Ud;have t10:(e.kind == 10)=false:=Ud;have HV:=Nf hv;have eV:=cJ.out.each 0 u0 q0 rfl rfl;obtain⟨A0,a0,rfl,kP⟩:=cJ.out.at (j:=0) rfl rfl;obtain⟨g,gc,rfl,wO,ka,eN,aG,il⟩:=Kc cJ.out.own Ul;have l0:=il 0 _ rfl;unfold maxLen at aG;clear hv hk il lo jG lW ea fj dV
 go_wp2_with fail
 go_ret;rw [HV.out];exact X9.of eV.1 rfl rfl Ua aC):p:=h
theorem Bz{p:Prop}(h:p:=by
 rw [if_neg eD] at aa;have t1:(de != 0)=false:=G8;have HR:=Nf aa;clear aa eD
 go_wp2_with (first|(go_at_call 77;refine(ap _ Jb).mono ?_;rintro r w1 ⟨rfl,ac⟩;have ak:=Jg ac;have db:=Jf ac;have eI:=ac.size;(try simp at eI);have bV:=lt0 w w1;have gq:=ltA w 1 w1;have ow:=lt0 wr w1)|(go_at_call 78;refine(ix _ Jb).mono ?_;rintro r w2 ⟨rfl,aq⟩;have dm:=Jg aq;have gO:=Jf aq;have kG:=aq.size;(try simp at kG);have ns:=lt0 w w2;have nt:=ltA w 1 w2))
 go_roundw
 case rel=>exact⟨k+1,Ua,Up,HR.out,Jb⟩
 case measure=>simp [intOf];omega):p:=h
theorem B0{p:Prop}(h:p:=by
 have HV:=Nf hv;clear hv
 go_enter Tryz.func84,Tryz.ntmps84
 go_wp2_with (first|(go_at_call 117;refine(bN _ Jb).mono ?_;rintro r wa ⟨rfl,aA⟩;have aW:=Jg aA;have bS:=Jf aA;have cN:w.heap.size+2<=wa.heap.size:=Ut;have dG:=lt0 w wa;have mj:=ltA w 1 wa)|(go_at_call 26;refine(aJ _ Jb).mono ?_;rintro r wb ⟨⟨A,cap,rfl,ae⟩,aH⟩;have el:=Jg aH;have mJ:=Jf aH;have dH:=aH.size;have cA:=lt0 w wb;have mm:=ltA w 1 wb;have cR:=Ju.of_own ae))
 refine Nv (v:= .agg #[.int .i64 (4),.int .i64 (0),.int .i64 (3)]) Vz rfl ⟨Vp,?_⟩;exact Km):p:=h
theorem Uac{p:Prop}(h:p:=by
 clear qd fy;have HV:=Nf hv;clear hv
 go_wp2_with (first|(go_at_call_of 137 E2;refine(jL _ Jb (dE.later Jb)).mono ?_;rintro r wd ⟨rfl,ct⟩;have jK:=Jg ct;have ir:=ct.size;have qz:=lt0 w wd;have oe:=lt0 wb wd;have qA:bv<wd.heap.size:=Ua)|(go_at_call_of 137 E1;refine(fy _ Jb (dE.later Jb)).mono ?_;rintro r we ⟨rfl,ef⟩;have et:=Jg ef;have uX:=ef.size;have qB:=lt0 w we;have qC:=lt0 wb we;have qD:bv<we.heap.size:=Ua))
 go_ret;exact⟨Jm HV.out.symm,Jb⟩):p:=h
theorem Uae{p:Prop}(h:p:=by
 clear qd;have HV:=Nf hv;clear hv
 go_wp2_with (first|(go_at_call_of 137 E2;refine(jL _ Jb (dE.later Jb)).mono ?_;rintro r wd ⟨rfl,ct⟩;have jK:=Jg ct;have ir:=ct.size;have qz:=lt0 w wd;have oe:=lt0 wb wd;have qA:bv<wd.heap.size:=Ua)|(go_at_call_of 137 E1;refine(fy _ Jb (dE.later Jb)).mono ?_;rintro r we ⟨rfl,ef⟩;have et:=Jg ef;have uX:=ef.size;have qB:=lt0 w we;have qC:=lt0 wb we;have qD:bv<we.heap.size:=Ua))
 go_ret;exact⟨Jm HV.out.symm,Jb⟩):p:=h
theorem Uak{p:Prop}(h:p:=by
 have t3:(e.kind == 3)=false:=Ud;have t4:(e.kind == 4)=false:=Ud;have t5:(e.kind == 5)=false:=Ud;have t6:(e.kind == 6)=false:=Ud;have t7:(e.kind == 7)=false:=Ud;have t10:(e.kind == 10)=false:=Ud;have HV:=Nf hv;clear hv hk hl lo jG lW ea fj
 go_wp2_with (first|(go_at_call 27;go_loud (refine(dV 1 _).mono ?_;rintro r w3 ⟨rfl,aM⟩)))
 go_ret;rw [HV.out];exact X9.of (n:=1) (xs:=cdC [(1,e.n)]) (Jex _ _ _) rfl rfl (by have:=aM.size;omega) (Jc (Jn aC aM aC.size) _)):p:=h
theorem Uao{p:Prop}(h:p:=by
 go_wp2_with (first|(at_lookup;go_loud (refine Qh rfl (.tmp 53) (.tmp 55) 116 rfl Tryz.underlying9 Tryz.underlying116 Tryz.underlying3 (Kj _) (wa.heap.size+1) n f q.name rfl ((ej.keep1 (heap_alloc_old _ _ dW)).plain) rfl dn ?_;rw [rb.out];simp only [Option.getD_none,Option.isSome_none,Option.getD_some,Option.isSome_some])))
 go_roundw
 case rel=>exact⟨k+1,m0,Ua,Up,rfl,rfl,vH,Jb⟩
 case measure=>simp [intOf];try omega):p:=h
theorem Uaw{p:Prop}(h:p:=by
 rcases Nat.eq_zero_or_pos l.length with h0|h0
 ·obtain⟨A',c',hv,h1,h2⟩:=Jv h;injection hv with e1 e2 e3;subst e3;exact⟨h1,h2,fun hl=>absurd hl Ua⟩
 ·obtain⟨g,c',hv,_,_,h1,h2,hc⟩:=Kc h h0;injection hv with e1 e2 e3;subst e1 e3;refine⟨h1,h2,fun _=>⟨g,0,rfl,fun k s hk=>?_⟩⟩;rw [Nat.zero_add];exact hc k _ L6):p:=h
theorem Uax{p:Prop}(h:p:=by
 clear hd hx
 cases dj:(x.toList == s.toList)
 ·rw [dj,Bool.false_or] at aa;have HR:=Nf aa;clear aa
  go_wp2_with fail
  go_roundw
  case rel=>exact⟨k+1,Ua,Up,HR.out,Jb⟩
  case measure=>simp [intOf];omega
 ·rw [dj,Bool.true_or] at aa;have HR:=Nf aa;clear aa
  go_wp2_with fail
  go_ret;exact⟨Jk HR.out,Jb⟩):p:=h
theorem Ua1{p:Prop}(h:p:=by
 clear hk fW;have HV:=Nf hv;clear hv
 go_wp2_with fail
 refine Jx Ug Ug (fun bj=>?_)
 repeat (quiet_step (fail))
 refine wpQuiet_nil ?_;intro wq au;replace au:=qbo au;obtain⟨au,dA,bh⟩:=au;clear bj
 (try simp at bh)
 go_wp2_with fail
 go_ret;exact⟨Kk HV.out.symm,Jb⟩):p:=h
theorem Ua2{p:Prop}(h:p:=by
 rw [e,show(k+1) * 2=2+k * 2 from by omega,List.getElem?_append_right Ul,List.getElem?_append_right Uj];simp only [Nl,Nm];rw [show 0+1+1=2 from rfl,show 2+k * 2-2=k * 2 from by omega,show 2+k * 2+1-2=k * 2+1 from by omega];exact this):p:=h
theorem Ua4{p:Prop}(h:p:=by
 have HR:=Nf bH;clear aa hd hx hD mH oH bH;generalize Y6 x (most-1)=dx at *
 go_wp2_with (go_at_call 138;refine(ihx _ (hs.later Jb)).mono ?_;rintro r w1 ⟨rfl,ac⟩)
 go_roundw
 case rel=>exact⟨k+1,_,Ua,Up,rfl,Ua,Ua,HR.out,Jb⟩
 case measure=>simp [intOf];omega):p:=h
theorem Ua8{p:Prop}(h:p:=by
 go_roundw
 case rel=>exact⟨k+1,Ua,Up,Du,(by repeat (first|exact Nt|(with_reducible assumption)|refine Jn ?_ Uf Ua|refine Below.setCell ?_ Mc _|refine Jd ?_ Uf|refine Jc ?_ _))⟩
 case measure=>simp [intOf];omega):p:=h
theorem Uba{p:Prop}(h:p:=by
 clear ar
 go_wp2_with fail
 go_quiet (fail)
 go_wp2_with fail
 go_roundw
 case rel=>exact⟨j+1,Ua,Up,Nf (by rw [wQ.out,if_neg Ul];exact Jy hox.out (J8 (Nt) _)),J8 dQ _⟩
 case measure=>simp [intOf];omega):p:=h
theorem Ubd{p:Prop}(h:p:=by
 go_roundw
 case rel=>exact⟨k+1,Ua,Up,Nf (by rw [qg.out,Jdy,Nk];exact pH.out),Nf (by rw [gD.out];exact HM5.out),by rw [gD.out];omega,HD5,da⟩
 case measure=>simp [intOf];omega):p:=h
theorem Ubg{p:Prop}(h:p:=by
 refine Jj fun K hK=>?_;go_simp;refine hK _ _ ?_;clear hK K
 try simp only [Act.put,sa1,sa2,sa3]
 refine Ki Ug ?_
 go_wp2_with fail
 go_ret;rw [HV.out];exact X9.of hR.own rfl rfl Ua (Jn aC yy aC.size)):p:=h
theorem Ubh{p:Prop}(h:p:=by
 have HR:=Nf aa;clear aa
 go_wp2_with fail
 go_quiet (fail)
 go_wp2_with fail
 go_roundw
 case rel=>exact⟨j+1,true,Ua,Up,rfl,by rw [Bool.true_or];exact HR.out,Jb⟩
 case measure=>simp [intOf];omega):p:=h
theorem Ubi{p:Prop}(h:p:=by
 rw [Jcx,Jgw];unfold Jck
 by_cases hs:s.data=s0.data
 ·rw [if_pos hs];simp [hs]
 ·rw [if_neg hs,h];have:decide (s0.data=s.data)=false:=by simpa using fun h=>hs h.symm
  rw [this,Bool.or_false]):p:=h
theorem Ubj{p:Prop}(h:p:=by
 have HV:=Nf hv;clear hv
 go_enter Tryz.func168,Tryz.ntmps168
 go_wp2_with (first|(go_at_call 177;refine(Jbm _ _).mono ?_;rintro r w1 ⟨rfl,rfl⟩))
 go_ret;exact⟨Jk HV.out.symm,Jb⟩):p:=h
theorem Ubk{p:Prop}(h:p:=by
 have aS:(Lit.string t.data.toList)≠ .string s.data.toList:=by
  intro h;injection h with h;exact aU L9
 rw [has_put_other aS,atKey_put_other aS,(h3 t).1,(h3 t).2];simp [upd,aU]):p:=h
theorem Ubl{p:Prop}(h:p:=by
 have hv:Ja6 n=⟨#[]⟩:=by
  unfold Ja6
  repeat' (rw [if_neg Ua])
 have HV:=Nf hv;clear hv
 go_enter Tryz.func159,Tryz.ntmps159
 go_wp2_with fail
 go_ret;exact⟨Kk HV.out.symm,Jb⟩):p:=h
theorem Ubm{p:Prop}(h:p:=by
 have HR:=Nf hR;clear hR hf
 go_enter Tryz.func92,Tryz.ntmps92
 go_wp2_with (go_at_call 35;refine(hj _ Jb).mono ?_;rintro r w1 ⟨rfl,ac⟩)
 go_ret;exact⟨Jm HR.out.symm,Jb⟩):p:=h
theorem Ubn{p:Prop}(h:p:=by
 rw [if_pos h1] at hv;have t1:(t != 1)=true:=Lw;clear h1;have HV:=Nf hv;clear hv
 go_enter Tryz.func173,Tryz.ntmps173
 go_wp2_with fail
 go_ret;exact⟨Jm HV.out.symm,rfl⟩):p:=h
theorem Ubo{p:Prop}(h:p:=by
 go_upto_region 14 with fail
 go_quiet (fail)
 go_wp2_with fail
 go_ret;exact(HV.out.step kM jt (J6.bel Jb)).done (Jm hY.out.symm) (fun h=>absurd (hY.out.symm.trans h) Ux)):p:=h
theorem Ubp{p:Prop}(h:p:=by
 rw [Bool.false_and] at aa;have HR:=Nf aa;clear aa hd hx
 go_wp2_with fail
 go_roundw
 case rel=>exact⟨k+1,false,Ua,Up,rfl,Dt,Jb⟩
 case measure=>simp [intOf];omega):p:=h
theorem Ubq{p:Prop}(h:p:=by
 have HR:=Nf hr;clear hr et
 go_wp2_with fail
 go_quiet (fail)
 go_wp2_with fail
 go_roundw
 case rel=>exact⟨k+1,Ua,Up,HR,Jb⟩
 case measure=>simp [intOf];try omega):p:=h
theorem Ubr{p:Prop}(h:p:=by
 clear hf ih hk bg hn;unfold exV;have HV:=Nf hv;clear hv
 go_enter Tryz.func136,Tryz.ntmps136
 go_wp2_with fail
 go_ret;exact⟨Kk HV.out.symm,Jb⟩):p:=h
theorem Ubs{p:Prop}(h:p:=by
 have bk:k=e.sub.length:=Ua;rw [bk,Nn,Ex.countL] at aa;have HR:=Nf aa;clear aa bk
 go_wp2_with fail
 go_ret;exact⟨Jm HR.out,Jb⟩):p:=h
theorem Ubt{p:Prop}(h:p:=by
 refine wpQuiet_nil ?_;intro wq au;replace au:=qbo au;obtain⟨au,dA,bh⟩:=au;clear bj
 (try simp at bh)
 go_wp2_with fail
 go_ret;exact⟨Jk HR.out,Jb⟩):p:=h
theorem Ubu{p:Prop}(h:p:=by
 have bk:k=e.sub.length:=Ua;rw [bk,Nn,Ex.sameL] at aa;have HR:=Nf aa;clear aa bk
 go_wp2_with fail
 go_ret;exact⟨Jk HR.out,Jb⟩):p:=h
theorem Ubv{p:Prop}(h:p:=by
 have HS:=Nf dw;clear dw
 go_wp2_with fail
 go_roundw
 case rel=>exact⟨k,_,_,Ua,Up,rfl,rfl,HS,Jb⟩
 case measure=>simp [intOf];try omega):p:=h
theorem Ubw{p:Prop}(h:p:=by
 refine K8 (B:=W0.heap.size) ?_ Ua
 (repeat first|(with_reducible assumption)|refine Js ?_|refine Kp ?_|refine Kn ?_ (fun b hb=>Sn) _ _)):p:=h
theorem Ubx{p:Prop}(h:p:=by
 rintro r w' ⟨rfl,hb⟩;rw [show J1 p=([],Qg p) by unfold J1;rw [if_neg aN]];exact⟨⟨.slice none 0 0,rfl,Nw⟩,hb⟩):p:=h
theorem Uby{p:Prop}(h:p:=by
 unfold wpOp;have hw:Region.wanted oj (yielded ops a.tmps)=true:=by simp [Region.wanted,hgj]
 simp only [hj,hw,if_true];exact .inl h2):p:=h
theorem Ubz{p:Prop}(h:p:=by
 clear h1 bM gh;have HV:=Nf hv;clear hv
 go_enter Tryz.func122,Tryz.ntmps122
 go_wp2_with fail
 go_ret;exact⟨Jm HV.out.symm,Jb⟩):p:=h
theorem Ub0{p:Prop}(h:p:=by exact Below.setCell (Below.setCell aC (show w.heap.size<=w.heap.size+1 by omega) _) (show w.heap.size<=w.heap.size+1 by omega) _):p:=h
theorem Ub1{p:Prop}(h:p:=by
 obtain rfl:k=l.length:=Ua;rw [Nn] at aa;have HR:=Nf aa;clear aa
 go_wp2_with fail
 go_ret;exact⟨Jk HR.out,Jb⟩):p:=h
theorem Ub2{p:Prop}(h:p:=by
 clear gh;have HV:=Nf hv;clear hv
 go_enter Tryz.func173,Tryz.ntmps173
 go_wp2_with fail
 go_ret;exact⟨Jm HV.out.symm,rfl⟩):p:=h
theorem Ub3{p:Prop}(h:p:=by
 clear h1;have HV:=Nf hv;clear hv
 go_enter Tryz.func173,Tryz.ntmps173
 go_wp2_with fail
 go_ret;exact⟨Jm HV.out.symm,rfl⟩):p:=h
theorem Ub4{p:Prop}(h:p:=by
 clear hR a1;have HV:=Nf hv;clear hv
 go_enter Tryz.func61,Tryz.ntmps61
 go_wp2_with fail
 go_ret;exact⟨Jm HV.out.symm,Jb⟩):p:=h
theorem Ub5{p:Prop}(h:p:=by
 rw [if_neg h1] at hw;have HW:=Nf hw;clear hw
 go_enter Tryz.func83,Tryz.ntmps83
 go_wp2_with fail
 go_ret;exact⟨Jm F8,Jb⟩):p:=h
theorem Ub6{p:Prop}(h:p:=by
 rw [if_pos h1] at hw;have HW:=Nf hw;clear hw
 go_enter Tryz.func83,Tryz.ntmps83
 go_wp2_with fail
 go_ret;exact⟨Jm F8,Jb⟩):p:=h
theorem Ub7{p:Prop}(h:p:=by
 clear h;have HV:=Nf hv;clear hv
 go_enter Tryz.func174,Tryz.ntmps174
 go_wp2_with fail
 go_ret;exact⟨Jm HV.out.symm,rfl⟩):p:=h
theorem Ub8{p:Prop}(h:p:=by
 rw [Bool.eq_false_iff];intro h;simp only [Bool.and_eq_true,beq_iff_eq] at h;exact aN (Prod.ext h.1.1 (Prod.ext h.1.2 h.2))):p:=h
theorem Ub9{p:Prop}(h:p:=by
 rw [Bool.eq_false_iff];intro h;simp only [Bool.and_eq_true,beq_iff_eq] at h;exact hf (Prod.ext h.1.1 (Prod.ext h.1.2 h.2))):p:=h
theorem Uca{p:Prop}(h:p:=by
 rw [if_pos qK] at aa;have HR:=Nf aa;clear aa hd hx;have uM:¬m'<most:=Ua
 go_wp2_with fail
 go_ret;exact⟨Jm HR.out,Jb⟩):p:=h
theorem Ucb{p:Prop}(h:p:=by
 have HV:=Nf hv;clear hv
 go_enter Tryz.func173,Tryz.ntmps173
 go_wp2_with fail
 go_ret;exact⟨Jm HV.out.symm,rfl⟩):p:=h
theorem Ucc{p:Prop}(h:p:=by
 have pS:=Nf (show R.1=12 by rw [hR]);clear hR
 go_wp2_with fail
 go_ret;exact Jhi.bel (Jm pS.out.symm) Sv pO bU):p:=h
theorem Ucd{p:Prop}(h:p:=by
 rw [hv,kR];simp only [List.getD_cons_zero]
 by_cases h:v.type=2
 ·simp [h,Jrc (eG _ (by simp:t0∈[t0]))]
 ·simp [h,Zk]):p:=h
theorem Uce{p:Prop}(h:p:=by
 rw [if_neg hd];have:decide (n.data=s.data)=false:=by simpa using fun e=>hd e.symm
 rw [this,Bool.or_false];exact hs):p:=h
theorem Ucf{p:Prop}(h:p:=by
 have HV:=Nf hv;clear hv
 go_enter Tryz.func147,Tryz.ntmps147
 go_wp2_with fail
 go_ret;exact⟨Jk HV.out.symm,Jb⟩):p:=h
theorem Ucg{p:Prop}(h:p:=by
 rw [Nn,List.all_nil] at aa;have HR:=Nf aa;clear aa
 go_wp2_with fail
 go_ret;exact⟨Jk HR.out,Jb⟩):p:=h
theorem Uch{p:Prop}(h:p:=by
 have HV:=Nf hv;clear hv
 go_enter Tryz.func33,Tryz.ntmps33
 go_wp2_with fail
 go_ret;exact⟨Jk HV.out.symm,Jb⟩):p:=h
theorem Uci{p:Prop}(h:p:=by
 have HV:=Nf hv;clear hv
 go_enter Tryz.func61,Tryz.ntmps61
 go_wp2_with fail
 go_ret;exact⟨Jm HV.out.symm,Jb⟩):p:=h
theorem Ucj{p:Prop}(h:p:=by
 have HV:=Nf hv;clear hv
 go_enter Tryz.func88,Tryz.ntmps88
 go_wp2_with fail
 go_ret;exact⟨Jk HV.out.symm,Jb⟩):p:=h
theorem Uck{p:Prop}(h:p:=by
 have b0:=g0 Ua;simp only [List.getD] at *
 by_cases hn:named=2 <;> rcases b0 with b0|b0 <;> simp [Jbl,Zk,b0,hn]):p:=h
theorem Ucl{p:Prop}(h:p:=by
 rw [Bool.eq_false_iff];intro h;simp only [Bool.and_eq_true,beq_iff_eq] at h;exact aS (by rw [h.1.1,h.1.2,h.2])):p:=h
theorem Ucm{p:Prop}(h:p:=by
 go_roundw
 case rel=>exact⟨k+1,m'+x.count (most-m'),Ua,Up,Up,Ua,Ua,HR.out,Jb⟩
 case measure=>simp [intOf];omega):p:=h
theorem Ucn{p:Prop}(h:p:=by
 rw [aP];unfold J0;rw [List.filter_append,List.map_append]
 congr 1
 rw [List.filter_cons]
 split <;> simp_all):p:=h
theorem Uco{p:Prop}(h:p:=by
 clear aa;have HV:=Nf hv;clear hv
 go_wp2_with fail
 go_ret;exact⟨Kk HV.out.symm,Jc (Nt) _⟩):p:=h
theorem Ucp{p:Prop}(h:p:=by
 rw [Ex.formed_eq,Bool.and_eq_true] at h;have:=h.1;unfold Jl Jw at this;rw [hk] at this;simp at this;omega):p:=h
theorem Ucq{p:Prop}(h:p:=by
 rw [<-HR.out,<-HAP.out] at hv;have HV:=Nf hv;clear hv
 go_wp2_with fail
 go_ret;exact⟨Kk HV.out.symm,Jb⟩):p:=h
theorem Ucr{p:Prop}(h:p:=by
 unfold wpOp;have hw:Region.wanted oi (yielded ops a.tmps)=true:=Dz;simp only [hi,hw,if_true];exact .inl h):p:=h
theorem Ucs{p:Prop}(h:p:=by
 rcases Nat.lt_or_ge j n with h|h
 ·exact h
 ·exact absurd hj (tail_waits hs hc hn inv _ i rfl dV gG j h)):p:=h
theorem Uct{p:Prop}(h:p:=by
 obtain⟨g,c',hv,_,_,_,_,hc⟩:=Kc h hm;injection hv with e1 e2 e3;subst e1;exact⟨g,0,rfl,fun j u hj=>Mm⟩):p:=h
theorem Ucu{p:Prop}(h:p:=by
 go_roundw
 case rel=>exact⟨1,_,Ua,Up,rfl,by rw [Kq];omega,HR.out,Jb⟩
 case measure=>simp [intOf];omega):p:=h
theorem Ucv{p:Prop}(h:p:=by
 have HR:=Nf aa;clear aa
 go_wp2_with fail
 go_ret;exact⟨Jm (by unfold Jp;rw [<-HR.out];rfl),Jb⟩):p:=h
theorem Ucw{p:Prop}(h:p:=by
 go_roundw
 case rel=>exact⟨k+1,Ua,Up,by rw [eZ.out];exact ao,Jb⟩
 case measure=>simp [intOf];omega):p:=h
theorem Ucx{p:Prop}(h:p:=by
 rw [hq] at dp;clear hq
 go_enter Tryz.func85,Tryz.ntmps85
 go_wp2_with fail
 go_ret;exact⟨rfl,Jb⟩):p:=h
theorem Ucy{p:Prop}(h:p:=by
 rcases aI with aI|aI
 ·exact .inl aI
 ·exact .inr fun b hb=>by have:=aI b hb;simp at this;omega):p:=h
theorem Ucz{p:Prop}(h:p:=by
 rw [Ex.formed_eq,Bool.and_eq_true] at h;have h1:=h.1;rw [Jl,hk] at h1;simp [Jw] at h1;omega):p:=h
theorem Uc0{p:Prop}(h:p:=by
 have ai:=ai.1;unfold Jw at ai
 repeat' split at ai
 all_goals first|omega|(simp at ai;omega)):p:=h
theorem Uc1{p:Prop}(h:p:=by
 clear hk fW;have HV:=Nf hv;clear hv
 go_wp2_with fail
 go_ret;exact⟨Kk HV.out.symm,Jb⟩):p:=h
theorem Uc2{p:Prop}(h:p:=by
 rw [if_pos hc] at h;simp only [Option.some.injEq,Prod.mk.injEq] at h;rw [<-h.2];exact hc):p:=h
theorem Uc3{p:Prop}(h:p:=by
 clear bT
 go_enter Tryz.func5,Tryz.ntmps5
 go_wp2_with fail
 go_ret;exact⟨Jas.no _,Jb⟩):p:=h
theorem Uc4{p:Prop}(h:p:=by
 obtain⟨D,⟨es,clock,hh,F,hs,hD⟩,h2⟩:=h;exact⟨D,⟨es,clock,hb.trans hh,F,hs,hD⟩,h2⟩):p:=h
theorem Uc5{p:Prop}(h:p:=by
 go_roundw
 case rel=>exact⟨k+1,Ua,Up,HR.out,Jb⟩
 case measure=>simp [intOf];omega):p:=h
theorem Uc6{p:Prop}(h:p:=by
 go_enter Tryz.func122,Tryz.ntmps122
 go_wp2_with fail
 go_ret;exact⟨Jm Ux,Jb⟩):p:=h
theorem Uc7{p:Prop}(h:p:=by
 rw [List.flatMap_cons,Nk,this,Nl];simp;omega):p:=h
theorem Uc8{p:Prop}(h:p:=by simp [IntKind.wrap,IntKind.bits,IntKind.signed];omega):p:=h
theorem Uc9{p:Prop}(h:p:=by
 go_wp2_with fail
 go_ret;exact⟨Jm HV.out.symm,Jb⟩):p:=h
theorem Uda{p:Prop}(h:p:=by
 go_wp2_with fail
 go_ret;exact⟨Jm HR.out,Jb⟩):p:=h
theorem Udb{p:Prop}(h:p:=by
 go_wp2_with fail
 go_ret;exact⟨Jk Tf,rfl⟩):p:=h
theorem Udc{p:Prop}(h:p:=by
 go_wp2_with fail
 go_ret;exact⟨Jk Uj,rfl⟩):p:=h
theorem Udd{p:Prop}(h:p:=by exact absurd (List.isEmpty_iff.1 aL) aO):p:=h
theorem Ude{p:Prop}(h:p:=by
 go_wp2_with fail
 go_ret;exact⟨Jk Vp,Jb⟩):p:=h
theorem Udf{p:Prop}(h:p:=by
 go_ret;exact⟨Jm HV.out.symm,Jb⟩):p:=h
theorem Udg{p:Prop}(h:p:=by
 go_ret;exact⟨Jk HR.out,Jb⟩):p:=h
theorem Udh{p:Prop}(h:p:=by repeat (first|(with_reducible assumption)|refine Jz.alloc ?_|refine Jz.bel ?_ Uf|refine Jz.drew ?_)):p:=h
theorem Udi{p:Prop}(h:p:=by rw [aW _ _ Ul];go_simp):p:=h
theorem Udk{p:Prop}(h:p:=by repeat (first|(with_reducible assumption)|refine Js ?_|refine Jy ?_ Uf|refine Kp ?_)):p:=h
theorem Udl{p:Prop}(h:p:=by repeat (first|exact Nt|(with_reducible assumption)|refine Below.setCell ?_ Uh _|refine Jd ?_ Uf|refine Jd ?_ (below_regrown _ _ _)|refine Jh ?_|refine J8 ?_ _|refine Jc ?_ _|refine Jn ?_ Uf Ua)):p:=h
theorem Udm{p:Prop}(h:p:=by rw [hV];exact Jr (ld.block wr.heap.size Ua (kp _ (Ns _))) (Ja ac Uq)):p:=h
theorem Udn{p:Prop}(h:p:=by rw [aW _ _ U0];go_simp):p:=h
theorem Udo{p:Prop}(h:p:=by repeat (first|(with_reducible assumption)|refine Ja Uf ?_|refine J4 ?_|refine Zw ?_)):p:=h
theorem Udp{p:Prop}(h:p:=by repeat (first|(with_reducible assumption)|refine Js ?_|refine Kn ?_ (fun b hb=>Mo) _ _)):p:=h
theorem Udq{p:Prop}(h:p:=by rw [eE];exact Nf (((lQ.out.later dQ).set Ua _ _).later (Jc (Nt) _))):p:=h
theorem Udr{p:Prop}(h:p:=by rcases h with h|h;exact absurd h Ua;have:=lw _ h;omega):p:=h
theorem Uds{p:Prop}(h:p:=by rw [bt];exact Ja ac Uq):p:=h
theorem Udt{p:Prop}(h:p:=by rw [Qo Ul];simpa using hj):p:=h
theorem Udu{p:Prop}(h:p:=by rw [gi];exact Qq _ _ _ ac Ua):p:=h
theorem Udv{p:Prop}(h:p:=by rw [hV];exact Jr (bJ.block w1.heap.size Ul (kp _ Ua)) Uq):p:=h
theorem Udw{p:Prop}(h:p:=by rw [eE];exact J4 ((J5 _ _ _ _ _ Ux).trans (Ja dQ r10))):p:=h
theorem Udx{p:Prop}(h:p:=by rw [eE];exact J4 ((J5 _ _ _ _ _ Ux).trans (Ja dQ r12))):p:=h
theorem Udy{p:Prop}(h:p:=by rw [eE];exact J4 ((J5 _ _ _ _ _ Ux).trans (Ja dQ r0))):p:=h
theorem Udz{p:Prop}(h:p:=by rw [eE];exact J4 ((J5 _ _ _ _ _ Ux).trans (Ja dQ r1))):p:=h
theorem Ud0{p:Prop}(h:p:=by rw [eE];exact J4 ((J5 _ _ _ _ _ Ux).trans (Ja dQ r2))):p:=h
theorem Ud1{p:Prop}(h:p:=by rw [eE];exact J4 ((J5 _ _ _ _ _ Ux).trans (Ja dQ r3))):p:=h
theorem Ud2{p:Prop}(h:p:=by rw [eE];exact J4 ((J5 _ _ _ _ _ Ux).trans (Ja dQ r4))):p:=h
theorem Ud3{p:Prop}(h:p:=by rw [eE];exact J4 ((J5 _ _ _ _ _ Ux).trans (Ja dQ r5))):p:=h
theorem Ud4{p:Prop}(h:p:=by rw [eE];exact J4 ((J5 _ _ _ _ _ Ux).trans (Ja dQ r6))):p:=h
theorem Ud5{p:Prop}(h:p:=by rw [eE];exact J4 ((J5 _ _ _ _ _ Ux).trans (Ja dQ r7))):p:=h
theorem Ud6{p:Prop}(h:p:=by rw [eE];exact J4 ((J5 _ _ _ _ _ Ux).trans (Ja dQ r8))):p:=h
theorem Ud7{p:Prop}(h:p:=by rw [eE];exact J4 ((J5 _ _ _ _ _ Ux).trans (Ja dQ r9))):p:=h
theorem Ud8{p:Prop}(h:p:=by rw [dl];exact Nf ((mU.out.later bZ).set Ua _ _)):p:=h
theorem Ud9{p:Prop}(h:p:=by rw [ac.cell Ul];go_simp):p:=h
theorem Ued{p:Prop}(h:p:=by
 go_roundw
 case rel=>exact⟨k+1,acc ++ [(x.typ l).1],Ua,Up,Lc,Vo,HR.out,Jb⟩
 case measure=>simp [intOf];omega):p:=h
theorem Uee{p:Prop}(h:p:=by
 go_roundw
 case rel=>exact⟨k+1,Ua,Up,HR,Jb⟩
 case measure=>simp [intOf];try omega):p:=h
theorem Uef{p:Prop}(h:p:=by
 go_ret;exact⟨Kk HV.out.symm,Jb⟩):p:=h
theorem Ueg{p:Prop}(h:p:=by
 go_roundw
 case rel=>exact⟨k+1,_,Ua,Up,rfl,HR.out,Jb⟩
 case measure=>simp [intOf];omega):p:=h
theorem Uek{p:Prop}(h:p:=by
 have dD:=(HC.out _ _ ig).1;rw [hq] at dp
 cases iv:K9 v.ck v.cn 0 ⟨#[]⟩
 ·have hv:=(dD _ iv hq).1 rfl;rw [iv] at aK;clear hq iv dD ig HC;have HV:=Nf hv;clear hv
  go_enter Tryz.func140,Tryz.ntmps140
  go_wp2_with (first|(go_at_call 49;refine(ap _ Jb).mono ?_;rintro r w1 ⟨rfl,ac⟩;have ak:=Jg ac;have db:=Jf ac;have af:=ac.size;(try simp at af);have jl:=lt0 w w1;have bV:=ltA w 1 w1;have cA:b<w1.heap.size:=Ua;have ep:b<w1.heap.size+1:=Ua)|(go_at_call 85;refine(aK _).mono ?_;rintro r w2 ⟨rfl,aq⟩))
  go_ret;exact⟨Jm HV.out.symm,Udl⟩
 ·have hv:=(dD _ iv hq).2 rfl;rw [iv] at aK;clear hq iv dD ig HC;have HV:=Nf hv;clear hv
  go_enter Tryz.func140,Tryz.ntmps140
  go_wp2_with (first|(go_at_call 49;refine(ap _ Jb).mono ?_;rintro r w1 ⟨rfl,ac⟩;have ak:=Jg ac;have db:=Jf ac;have af:=ac.size;(try simp at af);have jl:=lt0 w w1;have bV:=ltA w 1 w1;have cA:b<w1.heap.size:=Ua;have ep:b<w1.heap.size+1:=Ua)|(go_at_call 85;refine(aK _).mono ?_;rintro r w2 ⟨rfl,aq⟩))
  go_ret;exact⟨Jm HV.out.symm,Udl⟩):p:=h
theorem Ueq{p:Prop}(h:p:=by
 have hv:=(HC.out _ _ ig).2 hq;rw [hq] at dp;clear hq ig HC;have HV:=Nf hv;clear hv
 go_enter Tryz.func140,Tryz.ntmps140
 go_wp2_with (first|(go_at_call 49;refine(ap _ Jb).mono ?_;rintro r w1 ⟨rfl,ac⟩;have ak:=Jg ac;have db:=Jf ac;have af:=ac.size;(try simp at af);have jl:=lt0 w w1;have bV:=ltA w 1 w1;have cA:b<w1.heap.size:=Ua;have ep:b<w1.heap.size+1:=Ua)|(go_at_call 85;refine(aK _).mono ?_;rintro r w2 ⟨rfl,aq⟩))
 go_ret;exact⟨Jm HV.out.symm,Udl⟩):p:=h
theorem Uer{p:Prop}(h:p:=by
 clear hq h3;have HV:=Nf hv;clear hv
 go_enter Tryz.func140,Tryz.ntmps140
 go_wp2_with (first|(go_at_call 49;refine(ap _ Jb).mono ?_;rintro r w1 ⟨rfl,ac⟩;have ak:=Jg ac;have db:=Jf ac;have af:=ac.size;(try simp at af);have jl:=lt0 w w1;have bV:=ltA w 1 w1;have cA:b<w1.heap.size:=Ua;have ep:b<w1.heap.size+1:=Ua)|(go_at_call 85;refine(aK _).mono ?_;rintro r w2 ⟨rfl,aq⟩))
 go_ret;exact⟨Jm HV.out.symm,Udl⟩):p:=h
theorem Ues{p:Prop}(h:p:=by
 have aI:=HV.out;rw [if_pos rfl] at aI;have bL:=Nf aI;clear aI
 go_wp2_with (first|(go_at_call 49;go_loud (refine(ap _ Jb).mono ?_;rintro r w1 ⟨rfl,ac⟩;have ak:=Jg ac;have db:=Jf ac;have eq:=ac.size;(try simp at eq);have ge:bv<w1.heap.size:=Ua;(try have gf:g<w1.heap.size:=Ua))))
 go_quiet ((go_at_call 174;exact Calls.quiet_of_same ((Yp _ _ _).mono fun _ _ h=>⟨h.1,h.2.symm⟩)))
 go_wp2_with fail
 go_ret2
 exact⟨U8,Udl⟩):p:=h
theorem Uet{p:Prop}(h:p:=by
 have aI:=HV.out;rw [if_neg Ua] at aI;have bL:=Nf aI;clear aI
 go_wp2_with (first|(go_at_call 49;go_loud (refine(ap _ Jb).mono ?_;rintro r w1 ⟨rfl,ac⟩;have ak:=Jg ac;have db:=Jf ac;have eq:=ac.size;(try simp at eq);have ge:bv<w1.heap.size:=Ua;(try have gf:g<w1.heap.size:=Ua))))
 go_quiet ((go_at_call 174;exact Calls.quiet_of_same ((Yp _ _ _).mono fun _ _ h=>⟨h.1,h.2.symm⟩)))
 go_wp2_with fail
 go_ret2
 exact⟨U8,Udl⟩):p:=h
theorem Ueu{p:Prop}(h:p:=by
 clear hm
 go_wp2_with fail
 have ig:IntKind.i64.wrap e.n=e.n:=IntWalk.i64_in _ Ua
 go_quiet (first|(go_at_call 174;exact Calls.quiet_of_same ((Yp _ _ _).mono fun _ _ h=>⟨h.1,h.2.symm⟩))|(go_at_call 173;exact Calls.quiet_of_same ((Jj3 _ _ _).mono fun _ _ h=>⟨h.1,h.2.symm⟩)))
 clear ig
 go_wp2_with fail
 go_ret2
 exact⟨U8,Udl⟩):p:=h
theorem Uev{p:Prop}(h:p:=by
 clear ht
 go_wp2_with (first|(go_at_call 49;go_loud (refine(ap _ Jb).mono ?_;rintro r w1 ⟨rfl,ac⟩;have ak:=Jg ac;have db:=Jf ac;have eq:=ac.size;(try simp at eq);have ge:bv<w1.heap.size:=Ua;(try have gf:g<w1.heap.size:=Ua))))
 go_ret2
 exact⟨Fj,Udl⟩):p:=h
theorem Uew{p:Prop}(h:p:=by
 have aI:=HV.out;rw [if_pos rfl] at aI;have bL:=Nf aI;clear aI
 go_wp2_with fail
 go_quiet ((go_at_call 174;exact Calls.quiet_of_same ((Yp _ _ _).mono fun _ _ h=>⟨h.1,h.2.symm⟩)))
 go_wp2_with fail
 go_ret2
 exact⟨U8,Udl⟩):p:=h
theorem Uex{p:Prop}(h:p:=by
 have aI:=HV.out;rw [if_neg Ua] at aI;have bL:=Nf aI;clear aI
 go_wp2_with fail
 go_quiet ((go_at_call 174;exact Calls.quiet_of_same ((Yp _ _ _).mono fun _ _ h=>⟨h.1,h.2.symm⟩)))
 go_wp2_with fail
 go_ret2
 exact⟨U8,Udl⟩):p:=h
theorem Uey{p:Prop}(h:p:=by
 have aI:=HV.out;rw [eP,if_pos rfl] at aI;have bL:=Nf aI;clear eP aI
 go_wp2_with fail
 go_ret2
 exact⟨U8,Udl⟩):p:=h
theorem Uez{p:Prop}(h:p:=by
 have aI:=HV.out;rw [eP,if_neg Ua] at aI;have bL:=Nf aI;clear eP aI
 go_wp2_with fail
 go_ret2
 exact⟨U8,Udl⟩):p:=h
theorem Ue5{p:Prop}(h:p:=by
 subst hz;have hv:=Jgg (c:=(ck,cs)) ho;rw [bC,bd] at hv;clear ho bC bd sq;have HV:=Nf hv;clear hv
 go_enter Tryz.func78,Tryz.ntmps78
 go_wp2_with fail
 go_region
 all_goals
  go_wp2_with fail
  refine Jx Ug Ug (fun bj=>?_)
  repeat (quiet_step ((first|(go_at_call 113;exact Calls.regrown_of (rj _ Jb)))))
  refine wpQuiet_nil ?_;intro wq au;replace au:=qbo au;obtain⟨au,dA,bh⟩:=au;clear bj
  (try simp at bh)
  (try have ox:0<wq.heap.size:=by omega);(try have lI:=ltA w 3 wq)
  go_wp2_with (first|(go_at_call 114;refine(eF _ Jb).mono ?_;rintro r w1 ⟨rfl,ac⟩;have ⟨ak,af⟩:=aft ac;(try simp at af);(try have lH:=ltA w 3 w1);(try have go:0<w1.heap.size:=by omega)))
  go_ret;exact⟨Jm HV.out.symm,Jb⟩):p:=h
theorem Ue6{p:Prop}(h:p:=by
 have hv:=Jgh (c:=(ck,cs)) ho hz;have t1:(tq != 0)=true:=Mg;clear ho bC bd sq hz;have HV:=Nf hv;clear hv
 go_enter Tryz.func78,Tryz.ntmps78
 go_wp2_with fail
 go_region
 all_goals
  go_wp2_with fail
  refine Jx Ug Ug (fun bj=>?_)
  repeat (quiet_step ((first|(go_at_call 113;exact Calls.regrown_of (rj _ Jb)))))
  refine wpQuiet_nil ?_;intro wq au;replace au:=qbo au;obtain⟨au,dA,bh⟩:=au;clear bj
  (try simp at bh)
  (try have ox:0<wq.heap.size:=by omega);(try have lI:=ltA w 3 wq)
  go_wp2_with fail
  go_ret;exact⟨Jm HV.out.symm,Jb⟩):p:=h
theorem Ue7{p:Prop}(h:p:=by
 rw [hq] at ri;clear hq;have HV:=Nf hv;clear hv
 go_enter Tryz.func76,Tryz.ntmps76
 go_wp2_with (first|(go_at_call 77;refine(ap _ Jb).mono ?_;rintro r w1 ⟨rfl,ac⟩;have ⟨ak,af⟩:=aft ac;(try simp at af);(try have go:0<w1.heap.size:=by omega)))
 go_ret;exact⟨Jm HV.out.symm,Jb⟩):p:=h
theorem Ue8{p:Prop}(h:p:=by
 clear hq;have HV:=Nf hv;clear hv
 go_enter Tryz.func113,Tryz.ntmps113
 go_wp2_with (first|(go_at_call 77;refine(ap _ Jb).mono ?_;rintro r w1 ⟨rfl,ac⟩;have ⟨ak,af⟩:=aft ac;(try simp at af);(try have go:0<w1.heap.size:=by omega)))
 go_ret;exact⟨Jm HV.out.symm,Jb⟩):p:=h
theorem Ue9{p:Prop}(h:p:=by
 go_wp2_with (first|(go_at_call 77;refine(ap _ Jb).mono ?_;rintro r w1 ⟨rfl,ac⟩;have ⟨ak,af⟩:=aft ac;(try simp at af);(try have go:0<w1.heap.size:=by omega)))
 exact Udf):p:=h
theorem Ufa{p:Prop}(h:p:=by
 obtain⟨k,V,l2,hk,rfl,ru,aa,ed,ch,cK,kn⟩:=hrel;obtain rfl:V=u0:=ru.symm;have vp:∀b,V1.ownBlock=some b->w0.heap.size<=b:=fun b hb=>(ba.lt b hb).1
 have hE:some W.heap.size≠V1.ownBlock:=fun he=>by
  rcases gU with h|h
  ·rw [h] at he;exact kZ _ (Ns _) he
  ·have:=h _ he.symm;omega
 have gB:=Nd w0 W1 (J2 dZ ez (fun b hb=>(kS.out b hb).1) Ua);have aC:=Nd w0 wr (J2 gB cK.out vp gB.size);have vu:=cK.out.size;have aN:=Nb wr W.heap.size 3 (.slice Ae e.sub.length ce) (Jr (cK.out.block W.heap.size Ua hE) ak)
 by_cases am:k<e.sub.length
 ·have hx:e.sub[k]?=some e.sub[k]:=Ng am;have aj:e.sub[k]∈e.sub:=Nj am;have hd:e.sub.drop k=e.sub[k] :: e.sub.drop (k+1):=No am;generalize e.sub[k]=x at hx aj hd;obtain⟨b,off,A',cap',rfl,c0,c1,c2,c3,hs⟩:=he.get hx;have c0':=Ja aC c0;have c1':=Ja aC c1;have c2':=Ja aC c2;have c3':=Ja aC c3;obtain⟨dg,dcap,yv,wN,nG,_,_,pw⟩:=Kc jI Ua;injection yv with hd1' hd2' hd3';subst hd1' hd3';have aY:=Jfy e.kind e.name (ck,cs) am;have mr:some dg≠V1.ownBlock:=fun he=>by have:=qY _ he.symm;omega
  have f0:=Jr (a:=⟨dg,k * 2,none⟩) (cK.out.block dg nG mr) (pw _ _ aY.1);have f1:=Jr (a:=⟨dg,k * 2+1,none⟩) (cK.out.block dg nG mr) (pw _ _ aY.2);have hr:=aa.out;rw [hd,Ex.arrsL] at hr;rw [hd,Ex.sizeL] at kn;have jV:=Ex.arrs_len x l2 (K4 e.kind e.name (ck,cs) k);have az:=fun W' (gr:Below wr.heap.size wr W') (ho':W'.ownsRow w0.heap.size 55 2 V l2.length (Zl l2))=>ih x aj A' cap' (K4 e.kind e.name (ck,cs) k) hs W' V l2 (aC.trans (gr.mono aC.size)) ho' Ua;obtain⟨wk,ws,lD⟩:∃wk ws,K4 e.kind e.name (ck,cs) k=(wk,ws):=⟨_,_,rfl⟩;rw [lD] at az f0 f1 hr jV;unfold exV kvC at az;dsimp only at az f0 f1;have HR:=Nf hr;have HVB1:=Nf gU;clear hr aa hd hx c0 c1 c2 c3 pw aY lD gU mr hE qY
  go_wp2_with fail
  go_region_law (first|(go_simp;go_wp2_with (go_at_call 50;go_loud (refine(az _ Jb Udk).mono ?_;rintro r w3 ⟨⟨v3,rfl,aE,fv⟩,bJ⟩))))
  all_goals
   go_wp2_with fail
   go_roundw
   case rel=>
    have kI:=bJ.size;have rG:wr.grownBy w3 V.ownBlock:=Kv (K0 (Jh (Nt))) bJ;refine⟨k+1,_,x.arrs l2 (wk,ws),Ua,Up,rfl,HR,aE,Nf ?_,Nf ?_,Ua⟩
    ·rcases fv with h3|h3
     ·rw [h3];exact ch.out
     ·exact .inr fun b hb=>Fq
    ·refine Yz cK.out rG ?_
     rcases ch.out with h|h
     ·exact .inl h
     ·exact .inr fun b hb=>h b hb
   case measure=>simp [intOf];omega
 ·obtain rfl:k=e.sub.length:=Ua;have hr:=aa.out;rw [Nn,Ex.arrsL] at hr;subst hr;clear aa
  go_wp2_with fail
  go_ret;refine⟨⟨V,rfl,ed,?_⟩,?_⟩
  ·rcases ch.out with h|h
   ·rcases gU with h1|h1
    ·exact .inl (h.trans h1)
    ·exact .inr fun b hb=>by rw [h] at hb;have:=h1 b hb;omega
   ·exact .inr fun b hb=>by have:=h b hb;have:=ez.size;omega
  ·refine Yz ez cK.out ?_
   rcases gU with h1|h1
   ·exact .inl h1
   ·exact .inr fun b hb=>by have:=h1 b hb;omega):p:=h
theorem Lv{p:Prop}(h:p:=by show Qc W (nuI ((Jq p).map (·.first))) ((Jq p).map (·.first)).length A5 c5;rw [List.length_map];exact h1):p:=h
theorem Fs{p:Prop}(h:p:=by simp [Ky,Kan,Xn]):p:=h
theorem Mj{p:Prop}(h:p:=by simp [results,Tryz.results14,go_sem, *]):p:=h
theorem Mr{p:Prop}(h:p:=by simpa using h0):p:=h
theorem M2{p:Prop}(h:p:=by unfold Jke;dsimp only;omega):p:=h
theorem Tm{p:Prop}(h:p:=by unfold Jd8;dsimp only;omega):p:=h
theorem Ty{p:Prop}(h:p:=by rw [Nk,Y4];omega):p:=h
theorem T9{p:Prop}(h:p:=by rw [List.replicate_succ];rfl):p:=h
theorem Ba{p:Prop}(h:p:=by have:=(dF v.name).2;omega):p:=h
theorem Bb{p:Prop}(h:p:=by first|rfl|simp):p:=h
theorem Bc{p:Prop}(h:p:=by simpa using am):p:=h
theorem Bi{p:Prop}(h:p:=by simpa using c1):p:=h
theorem Bp{p:Prop}(h:p:=by simpa using c3):p:=h
theorem Br{p:Prop}(h:p:=by
 obtain⟨k,acc,hk,rfl,aR,ae,aa,ab⟩:=hrel;have hc:=Jg ab;have bu:=ab.size;have af:=lt0 w wr;have dt:=Nf aR;clear aR
 by_cases am:k<e.sub.length
 ·obtain⟨x,hx,aj,hd⟩:=Kl am;obtain⟨b,off,A',cap',rfl,c0,c1,c2,c3,hs⟩:=(he.later ab).get hx;rw [hd] at aa;have cw:=fun W h=>ih x aj A' cap' W h;unfold exV at cw
  cases ew:((x.typ l).2 != 0)
  ·have h0:(x.typ l).2=0:=Vr;rw [Yl l acc x _ h0] at aa;have HR:=Nf aa;clear aa hd hx h0
   go_wp2_with (first|(go_at_call 160;refine(cw _ (hs.later Jb) (hl.later Jb)).mono ?_;rintro r w1 ⟨rfl,ac⟩;have ⟨ak,af⟩:=aft ac;(try simp at af))|(at_builtin;refine Kap rfl (.tmp 33) (.tmp 35) 77 rfl W0.heap.size 3 (.int .i64 0) 1 8 Tryz.underlying77 Zd rfl Ua u6 k (acc.map (Value.int .i64)) _ 1 [.int .i64 (x.typ l).1] rfl Udk rfl rfl (fun j u hj=>U9) Uv Ua Ua U7 ?_;intro v2 w2 ao aq;have br:=aq.size;(try simp at br)))
   go_roundw
   case rel=>exact⟨k+1,acc ++ [(x.typ l).1],Ua,Up,Lc,Vo,HR.out,Jb⟩
   case measure=>simp [intOf];omega
  ·exfalso
   have h0:(x.typ l).2≠0:=Vr;rw [Yk l acc x _ h0] at aa;exact h0 Vk
 ·have bk:k=e.sub.length:=Ua;rw [bk,Nn,Ex.typL,Ku,if_pos rfl,List.append_nil,gn.out] at aa;have aR:acc = [t0]:=Dh;subst aR;have cD:k=1:=Fm;have HK:=Nf bk;clear aa bk;rw [cD] at ae;obtain⟨g,gc,rfl,eN,aG,bJ,cg,ah⟩:=Kc ae Ua;unfold maxLen at cg;have e0:=Na wr g 0 t0 (ah 0 _ rfl);have eT:g<wr.heap.size+1:=Ua;clear ah ae cD;have aC:=Nd w wr (Jd ax ab);have fA:=Jg aC;have mE:bv<wr.heap.size:=Ua;have ll:bv<wr.heap.size+1:=Ua;have qF:w.heap.size<wr.heap.size+1:=Ua;have v0':=(fA _ _ du).trans v0;have v1':=(fA _ _ du).trans v1;have v2':=(fA _ _ du).trans v2;have v3':=(fA _ _ du).trans v3;clear fA v0 v1 v2 v3
  rcases fQ with rfl|rfl <;> by_cases eQ:v.type=2
  ·have t2:(v.type == 2)=true:=by rw [eQ];rfl
   have aI:=HV.out;rw [if_pos eQ] at aI;have bL:=Nf aI;clear eQ aI
   go_wp2_with (first|(go_at_call 49;go_loud (refine(ap _ Jb).mono ?_;rintro r w1 ⟨rfl,ac⟩;have ak:=Jg ac;have db:=Jf ac;have eq:=ac.size;(try simp at eq);have ge:bv<w1.heap.size:=Ua;(try have gf:g<w1.heap.size:=Ua))))
   go_ret2
   exact⟨U8,Udl⟩
  ·have t2:(v.type == 2)=false:=Sx;have aI:=HV.out;rw [if_neg eQ] at aI;have bL:=Nf aI;clear eQ aI
   go_wp2_with (first|(go_at_call 49;go_loud (refine(ap _ Jb).mono ?_;rintro r w1 ⟨rfl,ac⟩;have ak:=Jg ac;have db:=Jf ac;have eq:=ac.size;(try simp at eq);have ge:bv<w1.heap.size:=Ua;(try have gf:g<w1.heap.size:=Ua))))
   go_ret2
   exact⟨U8,Udl⟩
  ·have t2:(v.type == 2)=true:=by rw [eQ];rfl
   have aI:=HV.out;rw [if_pos eQ] at aI;have bL:=Nf aI;clear eQ aI
   go_wp2_with (first|(go_at_call 49;go_loud (refine(ap _ Jb).mono ?_;rintro r w1 ⟨rfl,ac⟩;have ak:=Jg ac;have db:=Jf ac;have eq:=ac.size;(try simp at eq);have ge:bv<w1.heap.size:=Ua;(try have gf:g<w1.heap.size:=Ua))))
   go_ret2
   exact⟨U8,Udl⟩
  ·have t2:(v.type == 2)=false:=Sx;have aI:=HV.out;rw [if_neg eQ] at aI;have bL:=Nf aI;clear eQ aI
   go_wp2_with (first|(go_at_call 49;go_loud (refine(ap _ Jb).mono ?_;rintro r w1 ⟨rfl,ac⟩;have ak:=Jg ac;have db:=Jf ac;have eq:=ac.size;(try simp at eq);have ge:bv<w1.heap.size:=Ua;(try have gf:g<w1.heap.size:=Ua))))
   go_ret2
   exact⟨U8,Udl⟩):p:=h
theorem Bw{p:Prop}(h:p:=by
 have bk:k=p.locals.length:=Ua;have dz:k<=1000000:=Ua;rw [bk,Nn,Xr] at aa;have HS:=Nf aa;clear aa bk
 go_wp2_with fail
 go_loopw [4,6] (fun o i wr=>∃(k:Nat) (s:ByteArray),k<=p.eqs.length/\i = .int .i64 k/\o = .string s/\s.size<=400000000+20000 * k/\Zs s (p.eqs.drop k)=Zs (sx ++ ⟨#[108,101,116,10]⟩) p.eqs/\Below W0.heap.size W0 wr) (fun _ i _=>p.eqs.length-(intOf i).toNat)
 case atStart=>exact⟨0,_,Np,rfl,rfl,Uk,rfl,ab⟩
 case round=>
  obtain⟨k,s,hk,rfl,rfl,rV,aa,ab⟩:=hrel;have hc:=Jg ab;have bu:=ab.size;have fF:=lt0 w wr;have fa:w.heap.size<wr.heap.size+1:=Ua
  by_cases am:k<p.eqs.length
  ·obtain⟨q,hx,-,hd⟩:=Kl am;obtain⟨b,off,B1,n1,B2,n2,rfl,aH,⟨g0,g1,g2,g3,g4,g5,g6,g7,g8,g9,s1,s2⟩⟩:=(bT.later ab).get hx;rw [hd,Zs,Jk6] at aa;obtain⟨qL,cM,ju,ji,cH⟩:=Jaq (qu.out q (Ni hx));have cE:=Ex.showB_size q.e cM;have bY:=fun W h=>Jhe q.e cM Ua B2 n2 W (s2.later h);have vU:=Nf ji;clear ji;have tE:=Nf cM;clear cM;unfold exV at bY
   rcases cH with cH|cH|cH
   ·rw [if_neg Ua,if_neg Ua] at aa;have q1:(q.delay == 1)=false:=Lh;have q2:(q.delay == 2)=false:=Lh;clear cH;have HR:=Nf aa;clear aa hd hx
    go_wp2_with (first|(go_at_call 136;refine mo (bY _ Jb) fun w1 ac ak af bV=>?_;(try simp at af)))
    go_roundw
    case rel=>exact⟨k+1,_,Ua,Up,rfl,Uk,HR.out,Jb⟩
    case measure=>simp [intOf];omega
   ·rw [if_pos cH] at aa;have q1:(q.delay == 1)=true:=Lh;have q2:(q.delay == 2)=false:=Lh;obtain⟨jo,eh⟩:=vU.out cH;have rT:=Ex.showB_size q.first jo;have ee:=fun W h=>Jhe q.first jo Ua B1 n1 W (s1.later h);unfold exV at ee;have HFF:=Nf jo;clear jo;clear cH;have HR:=Nf aa;clear aa hd hx
    go_wp2_with (first|(go_at_call_of 136 B1;refine mo (ee _ Jb) fun w1 ac ak af bV=>?_;(try simp at af);(try have cA:b<w1.heap.size:=by omega))|(go_at_call_of 136 B2;refine mo (bY _ Jb) fun w1 ac ak af bV=>?_;(try simp at af);(try have cA:b<w1.heap.size:=by omega)))
    go_roundw
    case rel=>exact⟨k+1,_,Ua,Up,rfl,Uk,HR.out,Jb⟩
    case measure=>simp [intOf];omega
   ·rw [if_neg Ua,if_pos cH] at aa;have q1:(q.delay == 1)=false:=Lh;have q2:(q.delay == 2)=true:=Lh;clear cH;have HR:=Nf aa;clear aa hd hx
    go_wp2_with (first|(go_at_call 136;refine mo (bY _ Jb) fun w1 ac ak af bV=>?_;(try simp at af)))
    go_roundw
    case rel=>exact⟨k+1,_,Ua,Up,rfl,Uk,HR.out,Jb⟩
    case measure=>simp [intOf];omega
  ·have bk:k=p.eqs.length:=Ua;have dU:k<=1000000:=Ua;rw [bk,Nn,Zs] at aa;have bH:Jal p=s ++ ⟨#[116,101,108,10]⟩:=M1;have iy:(Jal p).size=s.size+4:=by rw [bH,Kq];rfl
   clear bk aa
   by_cases dP:4096<s.size+4
   ·have hv:K5 p=3:=by rw [HV.out,if_pos Ua]
    have hs:X8 p=⟨#[]⟩:=Mz;have iz:=Nf hs;clear hs;have bL:=Nf hv;clear hv bH iy;have jc:(4096:Int)<s.size+4:=Ua
    go_wp2_with fail
    go_ret2
    exact⟨Fg,Jb⟩
   ·have hv:K5 p=0:=by rw [HV.out,if_neg Ua]
    have hs:X8 p=s ++ ⟨#[116,101,108,10]⟩:=Gc;have iz:=Nf hs;clear hs;have bL:=Nf hv;clear hv bH iy;have jc:¬(4096:Int)<s.size+4:=Ua
    go_wp2_with fail
    go_ret2
    exact⟨Fg,Jb⟩):p:=h
theorem Bx{p:Prop}(h:p:=by
 have bk:k=p.locals.length:=Ua;have dz:k<=1000000:=Ua;rw [bk,Nn,Xr] at aa;have HS:=Nf aa;clear aa bk
 go_wp2_with fail
 go_loopw [4,51] (fun o i wr=>∃(k:Nat) (s:ByteArray),k<=p.eqs.length/\i = .int .i64 k/\o = .string s/\s.size<=400000000+20000 * k/\Zs s (p.eqs.drop k)=Zs (sx ++ ⟨#[108,101,116,10]⟩) p.eqs/\Below W0.heap.size W0 wr) (fun _ i _=>p.eqs.length-(intOf i).toNat)
 case atStart=>exact⟨0,_,Np,rfl,rfl,Uk,rfl,ab⟩
 case round=>
  obtain⟨k,s,hk,rfl,rfl,rV,aa,ab⟩:=hrel;have hc:=Jg ab;have bu:=ab.size
  by_cases am:k<p.eqs.length
  ·obtain⟨q,hx,-,hd⟩:=Kl am;obtain⟨b,off,B1,n1,B2,n2,rfl,aH,⟨g0,g1,g2,g3,g4,g5,g6,g7,g8,g9,s1,s2⟩⟩:=(bT.later ab).get hx;rw [hd,Zs,Jhz] at aa;obtain⟨qL,cM,ju,ji,cH⟩:=Jaq (qu.out q (Ni hx));have cE:=Ex.showB_size q.e cM;have bY:=fun W h=>Jhg q.e cM Ua B2 n2 W (s2.later h);have vU:=Nf ji;clear ji;have tE:=Nf cM;clear cM;unfold exV at bY
   rcases cH with cH|cH|cH
   ·rw [if_neg Ua,if_neg Ua] at aa;have q1:(q.delay == 1)=false:=Lh;have q2:(q.delay == 2)=false:=Lh;clear cH;have HR:=Nf aa;clear aa hd hx
    go_wp2_with (first|(go_at_call 131;refine mo (bY _ Jb) fun w1 ac ak af bV=>?_;(try simp at af)))
    go_roundw
    case rel=>exact⟨k+1,_,Ua,Up,rfl,Uk,HR.out,Jb⟩
    case measure=>simp [intOf];omega
   ·rw [if_pos cH] at aa;have q1:(q.delay == 1)=true:=Lh;have q2:(q.delay == 2)=false:=Lh;obtain⟨jo,eh⟩:=vU.out cH;have rT:=Ex.showB_size q.first jo;have ee:=fun W h=>Jhg q.first jo Ua B1 n1 W (s1.later h);unfold exV at ee;have HFF:=Nf jo;clear jo;clear cH;have HR:=Nf aa;clear aa hd hx
    go_wp2_with (first|(go_at_call_of 131 B1;refine mo (ee _ Jb) fun w1 ac ak af bV=>?_;(try simp at af);(try have cA:b<w1.heap.size:=by omega))|(go_at_call_of 131 B2;refine mo (bY _ Jb) fun w1 ac ak af bV=>?_;(try simp at af);(try have cA:b<w1.heap.size:=by omega)))
    go_roundw
    case rel=>exact⟨k+1,_,Ua,Up,rfl,Uk,HR.out,Jb⟩
    case measure=>simp [intOf];omega
   ·rw [if_neg Ua,if_pos cH] at aa;have q1:(q.delay == 1)=false:=Lh;have q2:(q.delay == 2)=true:=Lh;clear cH;have HR:=Nf aa;clear aa hd hx
    go_wp2_with (first|(go_at_call 131;refine mo (bY _ Jb) fun w1 ac ak af bV=>?_;(try simp at af)))
    go_roundw
    case rel=>exact⟨k+1,_,Ua,Up,rfl,Uk,HR.out,Jb⟩
    case measure=>simp [intOf];omega
  ·have bk:k=p.eqs.length:=Ua;have dU:k<=1000000:=Ua;rw [bk,Nn,Zs] at aa;have bH:Jal p=s ++ ⟨#[116,101,108,10]⟩:=M1;have iy:(Jal p).size=s.size+4:=by rw [bH,Kq];rfl
   clear bk aa
   by_cases dP:4096<s.size+4
   ·have hv:K5 p=3:=by rw [HV.out,if_pos Ua]
    have hs:X8 p=⟨#[]⟩:=Mz;have iz:=Nf hs;clear hs;have bL:=Nf hv;clear hv bH iy;have jc:(4096:Int)<s.size+4:=Ua
    go_wp2_with fail
    go_ret2
    exact⟨Fg,Jb⟩
   ·have hv:K5 p=0:=by rw [HV.out,if_neg Ua]
    have hs:X8 p=s ++ ⟨#[116,101,108,10]⟩:=Gc;have iz:=Nf hs;clear hs;have bL:=Nf hv;clear hv bH iy;have jc:¬(4096:Int)<s.size+4:=Ua
    go_wp2_with fail
    go_ret2
    exact⟨Fg,Jb⟩):p:=h
theorem By{p:Prop}(h:p:=by
 rw [ek] at aa
 cases b4
 ·replace aa:(false && (List.drop (k+1) p.eqs).all eqB)=Qw p:=Vg;have HR:=Nf aa;clear aa hd hx
  go_wp2_with (first|(go_at_call 143;refine mo (Qt _ _) fun w1 ac ak af bV=>?_;(try simp at af))|(go_at_call 145;refine mo (aB _ Jb) fun w1 ac ak af bV=>?_;(try simp at af))|(go_at_call 146;refine mo (cU _ Jb) fun w1 ac ak af bV=>?_;(try simp at af))|(go_at_call 147;refine mo (bF _ Jb) fun w1 ac ak af bV=>?_;(try simp at af)))
  go_roundw
  case rel=>exact⟨k+1,_,Ua,Up,rfl,HR.out,Jb⟩
  case measure=>simp [intOf];omega
 cases hn:Kz q.name
 ·rw [hn] at aa;replace aa:(false && (List.drop (k+1) p.eqs).all eqB)=Qw p:=Vg;have HR:=Nf aa;clear aa hd hx
  go_wp2_with (first|(go_at_call 143;refine mo (Qt _ _) fun w1 ac ak af bV=>?_;(try simp at af))|(go_at_call 145;refine mo (aB _ Jb) fun w1 ac ak af bV=>?_;(try simp at af))|(go_at_call 146;refine mo (cU _ Jb) fun w1 ac ak af bV=>?_;(try simp at af))|(go_at_call 147;refine mo (bF _ Jb) fun w1 ac ak af bV=>?_;(try simp at af)))
  go_roundw
  case rel=>exact⟨k+1,_,Ua,Up,rfl,HR.out,Jb⟩
  case measure=>simp [intOf];omega
 cases hr:(q.e.right == 0)
 ·rw [hn,hr] at aa;replace aa:(false && (List.drop (k+1) p.eqs).all eqB)=Qw p:=Vg;have HR:=Nf aa;clear aa hd hx
  go_wp2_with (first|(go_at_call 143;refine mo (Qt _ _) fun w1 ac ak af bV=>?_;(try simp at af))|(go_at_call 145;refine mo (aB _ Jb) fun w1 ac ak af bV=>?_;(try simp at af))|(go_at_call 146;refine mo (cU _ Jb) fun w1 ac ak af bV=>?_;(try simp at af))|(go_at_call 147;refine mo (bF _ Jb) fun w1 ac ak af bV=>?_;(try simp at af)))
  go_roundw
  case rel=>exact⟨k+1,_,Ua,Up,rfl,HR.out,Jb⟩
  case measure=>simp [intOf];omega
 rw [hn,hr] at aa;replace aa:(q.first.same Ex.zero && (List.drop (k+1) p.eqs).all eqB)=Qw p:=Mb;have HR:=Nf aa;clear aa hd hx
 go_wp2_with (first|(go_at_call 143;refine mo (Qt _ _) fun w1 ac ak af bV=>?_;(try simp at af))|(go_at_call 145;refine mo (aB _ Jb) fun w1 ac ak af bV=>?_;(try simp at af))|(go_at_call 146;refine mo (cU _ Jb) fun w1 ac ak af bV=>?_;(try simp at af))|(go_at_call 147;refine mo (bF _ Jb) fun w1 ac ak af bV=>?_;(try simp at af)))
 go_roundw
 case rel=>exact⟨k+1,_,Ua,Up,rfl,HR.out,Jb⟩
 case measure=>simp [intOf];omega):p:=h
theorem B4{p:Prop}(h:p:=by
 by_cases h:e.n=0
 ·have s1:(e.n == 0)=true:=Sl
  cases hs:e.name.toList.isEmpty
  ·have bd:e.name.toList≠[]:=L1;have hv:Jl e.kind e.n e.name e.sub.length=false:=L0;have HV:=Nf hv;clear hv;clear hk
   (try clear hl);(try clear aD);(try clear h);(try clear h2);(try clear h3);(try clear bd);(try clear bC)
   unfold exV
   go_enter Tryz.func161,Tryz.ntmps161
   go_wp2_with (first|(go_at_call 154;refine mo (aL _) fun w1 ac ak af bV=>?_;(try simp at af))|(go_at_call 175;refine(cp _).mono ?_;rintro r w1 ⟨rfl,rfl⟩))
   all_goals
    go_ret;exact⟨Jk HV.out.symm,Jb⟩
  ·have bC:=Ja2 hs;have bd:e.name.toList = []:=Mx;have hv:Jl e.kind e.n e.name e.sub.length=true:=G3;have HV:=Nf hv;clear hv;clear hk
   (try clear hl);(try clear aD);(try clear h);(try clear h2);(try clear h3);(try clear bd);(try clear bC)
   unfold exV
   go_enter Tryz.func161,Tryz.ntmps161
   go_wp2_with (first|(go_at_call 154;refine mo (aL _) fun w1 ac ak af bV=>?_;(try simp at af))|(go_at_call 175;refine(cp _).mono ?_;rintro r w1 ⟨rfl,rfl⟩))
   all_goals
    go_ret;exact⟨Jk HV.out.symm,Jb⟩
 ·have s1:(e.n == 0)=false:=Ve;have h3:e.n<0\/0<e.n:=Ua
  rcases h3 with h3|h3
  ·have hv:Jl e.kind e.n e.name e.sub.length=false:=Vj;have HV:=Nf hv;clear hv;clear hk
   (try clear hl);(try clear aD);(try clear h);(try clear h2);(try clear h3);(try clear bd);(try clear bC)
   unfold exV
   go_enter Tryz.func161,Tryz.ntmps161
   go_wp2_with (first|(go_at_call 154;refine mo (aL _) fun w1 ac ak af bV=>?_;(try simp at af))|(go_at_call 175;refine(cp _).mono ?_;rintro r w1 ⟨rfl,rfl⟩))
   all_goals
    go_ret;exact⟨Jk HV.out.symm,Jb⟩
  ·have hv:Jl e.kind e.n e.name e.sub.length=false:=Vj;have HV:=Nf hv;clear hv;clear hk
   (try clear hl);(try clear aD);(try clear h);(try clear h2);(try clear h3);(try clear bd);(try clear bC)
   unfold exV
   go_enter Tryz.func161,Tryz.ntmps161
   go_wp2_with (first|(go_at_call 154;refine mo (aL _) fun w1 ac ak af bV=>?_;(try simp at af))|(go_at_call 175;refine(cp _).mono ?_;rintro r w1 ⟨rfl,rfl⟩))
   all_goals
    go_ret;exact⟨Jk HV.out.symm,Jb⟩):p:=h
theorem B7{p:Prop}(h:p:=by
 have l1:((e.sub.length:Int) == 1)=true:=Dd
 by_cases h:e.n=0
 ·have s1:(e.n == 0)=true:=Sl
  cases hs:Kz e.name
  ·rw [hs] at aL;have hv:Jl e.kind e.n e.name e.sub.length=false:=Gl;have HV:=Nf hv;clear hv;clear hk
   (try clear hl);(try clear aD);(try clear h);(try clear h2);(try clear h3);(try clear bd);(try clear bC)
   unfold exV
   go_enter Tryz.func161,Tryz.ntmps161
   go_wp2_with (first|(go_at_call 154;refine mo (aL _) fun w1 ac ak af bV=>?_;(try simp at af))|(go_at_call 175;refine(cp _).mono ?_;rintro r w1 ⟨rfl,rfl⟩))
   all_goals
    go_ret;exact⟨Jk HV.out.symm,Jb⟩
  ·rw [hs] at aL;have hv:Jl e.kind e.n e.name e.sub.length=true:=Mh;have HV:=Nf hv;clear hv;clear hk
   (try clear hl);(try clear aD);(try clear h);(try clear h2);(try clear h3);(try clear bd);(try clear bC)
   unfold exV
   go_enter Tryz.func161,Tryz.ntmps161
   go_wp2_with (first|(go_at_call 154;refine mo (aL _) fun w1 ac ak af bV=>?_;(try simp at af))|(go_at_call 175;refine(cp _).mono ?_;rintro r w1 ⟨rfl,rfl⟩))
   all_goals
    go_ret;exact⟨Jk HV.out.symm,Jb⟩
 ·have s1:(e.n == 0)=false:=Ve;have h3:e.n<0\/0<e.n:=Ua
  rcases h3 with h3|h3
  ·have hv:Jl e.kind e.n e.name e.sub.length=false:=Vj;have HV:=Nf hv;clear hv;clear hk
   (try clear hl);(try clear aD);(try clear h);(try clear h2);(try clear h3);(try clear bd);(try clear bC)
   unfold exV
   go_enter Tryz.func161,Tryz.ntmps161
   go_wp2_with (first|(go_at_call 154;refine mo (aL _) fun w1 ac ak af bV=>?_;(try simp at af))|(go_at_call 175;refine(cp _).mono ?_;rintro r w1 ⟨rfl,rfl⟩))
   all_goals
    go_ret;exact⟨Jk HV.out.symm,Jb⟩
  ·have hv:Jl e.kind e.n e.name e.sub.length=false:=Vj;have HV:=Nf hv;clear hv;clear hk
   (try clear hl);(try clear aD);(try clear h);(try clear h2);(try clear h3);(try clear bd);(try clear bC)
   unfold exV
   go_enter Tryz.func161,Tryz.ntmps161
   go_wp2_with (first|(go_at_call 154;refine mo (aL _) fun w1 ac ak af bV=>?_;(try simp at af))|(go_at_call 175;refine(cp _).mono ?_;rintro r w1 ⟨rfl,rfl⟩))
   all_goals
    go_ret;exact⟨Jk HV.out.symm,Jb⟩):p:=h
theorem Uab{p:Prop}(h:p:=by
 by_cases h:e.n=0
 ·have s1:(e.n == 0)=true:=Sl
  cases hs:Kz e.name
  ·rw [hs] at aL;have hv:Jl e.kind e.n e.name e.sub.length=false:=Gl;have HV:=Nf hv;clear hv;clear hk
   (try clear hl);(try clear aD);(try clear h);(try clear h2);(try clear h3);(try clear bd);(try clear bC)
   unfold exV
   go_enter Tryz.func161,Tryz.ntmps161
   go_wp2_with (first|(go_at_call 154;refine mo (aL _) fun w1 ac ak af bV=>?_;(try simp at af))|(go_at_call 175;refine(cp _).mono ?_;rintro r w1 ⟨rfl,rfl⟩))
   all_goals
    go_ret;exact⟨Jk HV.out.symm,Jb⟩
  ·rw [hs] at aL;have hv:Jl e.kind e.n e.name e.sub.length=true:=Mh;have HV:=Nf hv;clear hv;clear hk
   (try clear hl);(try clear aD);(try clear h);(try clear h2);(try clear h3);(try clear bd);(try clear bC)
   unfold exV
   go_enter Tryz.func161,Tryz.ntmps161
   go_wp2_with (first|(go_at_call 154;refine mo (aL _) fun w1 ac ak af bV=>?_;(try simp at af))|(go_at_call 175;refine(cp _).mono ?_;rintro r w1 ⟨rfl,rfl⟩))
   all_goals
    go_ret;exact⟨Jk HV.out.symm,Jb⟩
 ·have s1:(e.n == 0)=false:=Ve;have h3:e.n<0\/0<e.n:=Ua
  rcases h3 with h3|h3
  ·have hv:Jl e.kind e.n e.name e.sub.length=false:=Vj;have HV:=Nf hv;clear hv;clear hk
   (try clear hl);(try clear aD);(try clear h);(try clear h2);(try clear h3);(try clear bd);(try clear bC)
   unfold exV
   go_enter Tryz.func161,Tryz.ntmps161
   go_wp2_with (first|(go_at_call 154;refine mo (aL _) fun w1 ac ak af bV=>?_;(try simp at af))|(go_at_call 175;refine(cp _).mono ?_;rintro r w1 ⟨rfl,rfl⟩))
   all_goals
    go_ret;exact⟨Jk HV.out.symm,Jb⟩
  ·have hv:Jl e.kind e.n e.name e.sub.length=false:=Vj;have HV:=Nf hv;clear hv;clear hk
   (try clear hl);(try clear aD);(try clear h);(try clear h2);(try clear h3);(try clear bd);(try clear bC)
   unfold exV
   go_enter Tryz.func161,Tryz.ntmps161
   go_wp2_with (first|(go_at_call 154;refine mo (aL _) fun w1 ac ak af bV=>?_;(try simp at af))|(go_at_call 175;refine(cp _).mono ?_;rintro r w1 ⟨rfl,rfl⟩))
   all_goals
    go_ret;exact⟨Jk HV.out.symm,Jb⟩):p:=h
theorem Uad{p:Prop}(h:p:=by
 have HW:=Nf hw;clear hw
 go_enter Tryz.func56,Tryz.ntmps56
 go_wp2_with fail
 refine Jo fun W0 ag=>?_;have ax:=Nd w W0 Uo;have bD:w.heap.size<W0.heap.size:=Us;have p0:=Na W0 w.heap.size 0 e.kind Uc;have p2:=Nb W0 w.heap.size 2 (.string e.name) Uc;have p3:=Nb W0 w.heap.size 3 (.slice Ae e.sub.length ce) Uc;have c0:=Na W0 (w.heap.size+1) 0 ck Uc;have c1:=Nb W0 (w.heap.size+1) 1 (.string cn) Uc;have iq:w.heap.size+1<W0.heap.size:=Us;clear ag
 go_loopw [5,6] (fun v i wr=>∃(k:Nat),k<=e.sub.length/\i = .int .i64 k/\wr.ownsRow W0.heap.size 55 2 v k (Yx e.kind e.name (ck,cn) k)/\Below W0.heap.size W0 wr) (fun _ i _=>e.sub.length-(intOf i).toNat)
 case atStart=>exact⟨0,Np,rfl,Nw,Nt⟩
 case round=>
  obtain⟨k,hk,rfl,ae,ab⟩:=hrel;have hc:=Jg ab;have bu:=ab.size;have eV:=lt0 w wr;have fF:=ltA w 1 wr
  by_cases am:k<e.sub.length
  ·go_wp2_with (first|(at_builtin;(refine Kap rfl (.tmp 33) (.tmp 35) 122 rfl W0.heap.size 55 _ 2 24 Tryz.underlying122 Jes rfl Ua u5 k (Yx e.kind e.name (ck,cn) k) _ 1 [.int .i64 0,.string ⟨#[]⟩] rfl Udp rfl rfl (fun j u hj=>Udt) Uv Ua Ua U7 ?_;intro v2 w2 ao aq;have br:=aq.size;(try simp at br))))
   go_roundw
   case rel=>exact⟨k+1,Ua,Up,Du,(by repeat (first|exact Nt|(with_reducible assumption)|refine Jn ?_ Uf Ua|refine Below.setCell ?_ Mc _|refine Jd ?_ Uf|refine Jc ?_ _))⟩
   case measure=>simp [intOf];omega
  ·obtain rfl:k=e.sub.length:=Ua
   go_wp2_with fail
   go_ret;exact⟨⟨_,rfl,K8 ae Ua⟩,Jb⟩):p:=h
theorem Uaf{p:Prop}(h:p:=by
 clear dD;have HV:=Nf hv;clear hv
 go_enter Tryz.func132,Tryz.ntmps132
 go_wp2_with (first|(go_at_call 151;refine(av _ Jb).mono ?_;rintro r w1 ⟨⟨v,rfl,ae⟩,ac⟩;have ⟨ak,af⟩:=aft ac;(try simp at af);(try have bV:=lt0 w w1);(try have gq:=ltA w 1 w1);(try have ow:=ltA w 2 w1);(try have ns:=lt0 wr w1);(try have nt:=ltA wr 1 w1);rw [dS] at ae;simp only [List.map_cons,List.map_nil,Nl,Nm,Nat.zero_add,Nat.reduceAdd] at ae;obtain⟨g,gc,rfl,eN,aG,bJ,cg,ah⟩:=Kc ae Ua;unfold maxLen at cg;have e0:=ah 0 _ rfl;have e1:=ah 1 _ rfl;clear ah ae)|(go_at_call 152;refine(aF _ Jb).mono ?_;rintro r w1 ⟨rfl,ac⟩;have ⟨ak,af⟩:=aft ac;(try simp at af);(try have bV:=lt0 w w1);(try have gq:=ltA w 1 w1);(try have ow:=ltA w 2 w1);(try have ns:=lt0 wr w1);(try have nt:=ltA wr 1 w1);(try have eC:=Nr aG ac.size)))
 refine Jx Ug Ug (fun bj=>?_)
 repeat (quiet_step ((go_at_call 153;exact Calls.regrown_of ((Jiz _ _ _).mono fun _ _ h=>⟨h.1,F5⟩))))
 refine wpQuiet_nil ?_;intro wq au;replace au:=qbo au;obtain⟨au,dA,bh⟩:=au;clear bj
 (try simp at bh)
 (try have oO:=lt0 w wq);(try have nw:=ltA w 1 wq);(try have kb:=ltA w 2 wq);(try have vq:=lt0 wr wq)
 (try have uD:=Nr eC au.size)
 go_wp2_with fail
 refine Jx Ug Ug (fun bj=>?_)
 repeat (quiet_step (fail))
 refine wpQuiet_nil ?_;intro wq au;replace au:=qbo au;obtain⟨au,dA,bh⟩:=au;clear bj
 (try simp at bh)
 (try have oO:=lt0 w wq);(try have nw:=ltA w 1 wq);(try have kb:=ltA w 2 wq);(try have vq:=lt0 wr wq)
 go_wp2_with fail
 go_ret2
 exact⟨Vi,Jb⟩):p:=h
theorem Ual{p:Prop}(h:p:=by
 have HV:=Nf hv;clear hv
 go_enter Tryz.func132,Tryz.ntmps132
 go_wp2_with (first|(go_at_call 151;refine(av _ Jb).mono ?_;rintro r w1 ⟨⟨v,rfl,ae⟩,ac⟩;have ⟨ak,af⟩:=aft ac;(try simp at af);(try have bV:=lt0 w w1);(try have gq:=ltA w 1 w1);(try have ow:=ltA w 2 w1);(try have ns:=lt0 wr w1);(try have nt:=ltA wr 1 w1);rw [dS] at ae;simp only [List.map_cons,List.map_nil,Nl,Nm,Nat.zero_add,Nat.reduceAdd] at ae;obtain⟨g,gc,rfl,eN,aG,bJ,cg,ah⟩:=Kc ae Ua;unfold maxLen at cg;have e0:=ah 0 _ rfl;have e1:=ah 1 _ rfl;clear ah ae)|(go_at_call 152;refine(aF _ Jb).mono ?_;rintro r w1 ⟨rfl,ac⟩;have ⟨ak,af⟩:=aft ac;(try simp at af);(try have bV:=lt0 w w1);(try have gq:=ltA w 1 w1);(try have ow:=ltA w 2 w1);(try have ns:=lt0 wr w1);(try have nt:=ltA wr 1 w1);(try have eC:=Nr aG ac.size)))
 refine Jx Ug Ug (fun bj=>?_)
 repeat (quiet_step ((go_at_call 153;exact Calls.regrown_of ((Jiz _ _ _).mono fun _ _ h=>⟨h.1,F5⟩))))
 refine wpQuiet_nil ?_;intro wq au;replace au:=qbo au;obtain⟨au,dA,bh⟩:=au;clear bj
 (try simp at bh)
 (try have oO:=lt0 w wq);(try have nw:=ltA w 1 wq);(try have kb:=ltA w 2 wq);(try have vq:=lt0 wr wq)
 (try have uD:=Nr eC au.size)
 go_wp2_with fail
 refine Jx Ug Ug (fun bj=>?_)
 repeat (quiet_step (fail))
 refine wpQuiet_nil ?_;intro wq au;replace au:=qbo au;obtain⟨au,dA,bh⟩:=au;clear bj
 (try simp at bh)
 (try have oO:=lt0 w wq);(try have nw:=ltA w 1 wq);(try have kb:=ltA w 2 wq);(try have vq:=lt0 wr wq)
 go_wp2_with fail
 go_ret2
 exact⟨Vi,Jb⟩):p:=h
theorem Uam{p:Prop}(h:p:=by
 refine Kb 11 ?_;refine Jj fun K hK=>?_;go_simp;refine(kT.out _ _ (Jka _ _ _ rfl)).mono ?_;rintro r wz ⟨⟨v,rfl,ae⟩,gt⟩;dsimp only;have cF:=Nd W0 wz (Jd (Jc cT _) gt);refine hK _ _ ⟨HS.out wz cF,?_⟩;clear hK K
 try simp only [Act.put,sa1,sa2,sa3]
 have dk:=HS.out wz cF;refine Ji 12 dk ?_;refine Ji 13 dk ?_;refine Jfe (i:=14) (j:=15) Ug Um Um rfl rfl ?_ ?_
 ·refine Jj fun K hK=>?_;go_simp;refine hK _ _ ⟨dk,?_⟩;clear hK K
  try simp only [Act.put,sa1,sa2,sa3]
  refine Kb 15 ?_;refine Jj fun K hK=>?_;go_simp;refine hK _ _ ⟨dk,?_⟩;clear hK K
  try simp only [Act.put,sa1,sa2,sa3]
  refine Kh Ug ?_;refine Qx 16 ?_;refine Jj fun K hK=>?_;go_simp;refine hK _ _ ?_;clear hK K
  try simp only [Act.put,sa1,sa2,sa3]
  refine Ki Ug ?_;have jh:=Nd w wz (Jd aC cF);have fN:=K8 ae (show w.heap.size<=_ by first|omega|(simp;omega));clear ar dr dk kT
  go_wp2_with fail
  go_ret2
  exact⟨⟨_,rfl,fN⟩,jh⟩
 ·refine Jj fun K hK=>?_;go_simp;refine hK _ _ ⟨dk,?_⟩;clear hK K
  try simp only [Act.put,sa1,sa2,sa3]
  refine Kb 14 ?_;refine Jj fun K hK=>?_;go_simp;refine hK _ _ ⟨dk,?_⟩;clear hK K
  try simp only [Act.put,sa1,sa2,sa3]
  refine Kh Ug ?_;refine Qx 16 ?_;refine Jj fun K hK=>?_;go_simp;refine hK _ _ ?_;clear hK K
  try simp only [Act.put,sa1,sa2,sa3]
  refine Ki Ug ?_;have jh:=Nd w wz (Jd aC cF);have fN:=K8 ae (show w.heap.size<=_ by first|omega|(simp;omega));clear ar dr dk kT
  go_wp2_with fail
  go_ret2
  exact⟨⟨_,rfl,fN⟩,jh⟩):p:=h
theorem Uan{p:Prop}(h:p:=by
 have HV:=Nf hv;clear hv
 go_enter Tryz.func168,Tryz.ntmps168
 go_wp2_with (first|(go_at_call 177;refine(Jbm _ _).mono ?_;rintro r w1 ⟨rfl,rfl⟩)|(go_at_call 143;refine mo (Qt _ _) fun w1 ac ak af bV=>?_;(try simp at af)))
 go_loopw [59] (fun i wr=>∃(k:Nat),k<=e.sub.length/\i = .int .i64 k/\Ex.formedL (e.sub.drop k)=e.formed/\Below w.heap.size w wr) (fun i _=>e.sub.length-(intOf i).toNat)
 case atStart=>exact⟨0,Np,rfl,Td,Jb⟩
 case round=>
  obtain⟨k,hk,rfl,aa,ab⟩:=hrel
  by_cases am:k<e.sub.length
  ·obtain⟨x,hx,aj,hd⟩:=Kl am;obtain⟨b,off,A',cap',rfl,c0,c1,c2,c3,hs⟩:=(he.later ab).get hx;rw [hd,Ex.formedL] at aa;have ihx:=ih x aj
   cases ew:x.formed
   ·rw [ew,Bool.false_and] at aa;have HR:=Nf aa;clear aa hd hx
    go_wp2_with (go_at_call 168;refine(ihx A' cap' _ (hs.later Jb)).mono ?_;rintro r w2 ⟨rfl,aq⟩)
    go_ret;exact⟨Jk HR.out,Jb⟩
   ·rw [ew,Bool.true_and] at aa;have HR:=Nf aa;clear aa hd hx
    go_wp2_with (go_at_call 168;refine(ihx A' cap' _ (hs.later Jb)).mono ?_;rintro r w2 ⟨rfl,aq⟩)
    go_roundw
    case rel=>exact⟨k+1,Ua,Up,HR.out,Jb⟩
    case measure=>simp [intOf];omega
  ·have bk:k=e.sub.length:=Ua;rw [bk,Nn] at aa;rw [Ex.formedL] at aa;have HR:=Nf aa;clear aa bk
   go_wp2_with fail
   go_ret;exact⟨Jk HR.out,Jb⟩):p:=h
theorem Uas{p:Prop}(h:p:=by
 cases hs:e.name.toList.isEmpty
 ·have bd:e.name.toList≠[]:=L1;have hv:Jl e.kind e.n e.name e.sub.length=false:=L0;have HV:=Nf hv;clear hv;clear hk
  (try clear hl);(try clear aD);(try clear h);(try clear h2);(try clear h3);(try clear bd);(try clear bC)
  unfold exV
  go_enter Tryz.func161,Tryz.ntmps161
  go_wp2_with (first|(go_at_call 154;refine mo (aL _) fun w1 ac ak af bV=>?_;(try simp at af))|(go_at_call 175;refine(cp _).mono ?_;rintro r w1 ⟨rfl,rfl⟩))
  all_goals
   go_ret;exact⟨Jk HV.out.symm,Jb⟩
 ·have bC:=Ja2 hs;have bd:e.name.toList = []:=Mx;have hv:Jl e.kind e.n e.name e.sub.length=true:=Md;have HV:=Nf hv;clear hv;clear hk
  (try clear hl);(try clear aD);(try clear h);(try clear h2);(try clear h3);(try clear bd);(try clear bC)
  unfold exV
  go_enter Tryz.func161,Tryz.ntmps161
  go_wp2_with (first|(go_at_call 154;refine mo (aL _) fun w1 ac ak af bV=>?_;(try simp at af))|(go_at_call 175;refine(cp _).mono ?_;rintro r w1 ⟨rfl,rfl⟩))
  all_goals
   go_ret;exact⟨Jk HV.out.symm,Jb⟩):p:=h
theorem Uat{p:Prop}(h:p:=by
 obtain⟨x,hx,aj,hd⟩:=Kl am;obtain⟨b,off,A',cap',rfl,c0,c1,c2,c3,hs⟩:=(he.later ab).get hx;rw [hd] at aa;have cw:=fun W h=>ih x aj A' cap' W h;unfold exV at cw
 cases ew:((x.typ l).2 != 0)
 ·have h0:(x.typ l).2=0:=Vr;rw [Yl l acc x _ h0] at aa;have HR:=Nf aa;clear aa hd hx h0
  go_wp2_with (first|(go_at_call 160;refine(cw _ (hs.later Jb) (hl.later Jb)).mono ?_;rintro r w1 ⟨rfl,ac⟩;have ⟨ak,af⟩:=aft ac;(try simp at af))|(at_builtin;refine Kap rfl (.tmp 33) (.tmp 35) 77 rfl W0.heap.size 3 (.int .i64 0) 1 8 Tryz.underlying77 Zd rfl Ua u6 k (acc.map (Value.int .i64)) _ 1 [.int .i64 (x.typ l).1] rfl Udk rfl rfl (fun j u hj=>U9) Uv Ua Ua U7 ?_;intro v2 w2 ao aq;have br:=aq.size;(try simp at br)))
  go_roundw
  case rel=>exact⟨k+1,acc ++ [(x.typ l).1],Ua,Up,Lc,Vo,HR.out,Jb⟩
  case measure=>simp [intOf];omega
 ·exfalso
  have h0:(x.typ l).2≠0:=Vr;rw [Yk l acc x _ h0] at aa;exact h0 Vk):p:=h
theorem Uav{p:Prop}(h:p:=by
 clear dD;have HV:=Nf hv;clear hv
 go_enter Tryz.func132,Tryz.ntmps132
 go_wp2_with (first|(go_at_call 151;refine(av _ Jb).mono ?_;rintro r w1 ⟨⟨v,rfl,ae⟩,ac⟩;have ⟨ak,af⟩:=aft ac;(try simp at af);have bV:=alt ac;rw [dS] at ae;simp only [List.map_cons,List.map_nil,Nl,Nm,Nat.zero_add,Nat.reduceAdd] at ae;obtain⟨g,gc,rfl,eN,aG,bJ,cg,ah⟩:=Kc ae Ua;unfold maxLen at cg;have e0:=ah 0 _ rfl;have e1:=ah 1 _ rfl;have e2:=ah 2 _ rfl;clear ah ae)|(go_at_call 152;refine(aF _ Jb).mono ?_;rintro r w1 ⟨rfl,ac⟩;have ⟨ak,af⟩:=aft ac;(try simp at af);have bV:=alt ac;(try have eC:=Nr aG ac.size)))
 refine Jx Ug Ug (fun bj=>?_)
 repeat (quiet_step (fail))
 refine wpQuiet_nil ?_;intro wq au;replace au:=qbo au;obtain⟨au,dA,bh⟩:=au;clear bj
 (try simp at bh)
 have oO:=alt au
 go_wp2_with fail
 go_ret2
 exact⟨Vi,Jb⟩):p:=h
theorem Ua0{p:Prop}(h:p:=by
 have HV:=Nf hv;clear hv
 go_enter Tryz.func132,Tryz.ntmps132
 go_wp2_with (first|(go_at_call 151;refine(av _ Jb).mono ?_;rintro r w1 ⟨⟨v,rfl,ae⟩,ac⟩;have ⟨ak,af⟩:=aft ac;(try simp at af);have bV:=alt ac;rw [dS] at ae;simp only [List.map_cons,List.map_nil,Nl,Nm,Nat.zero_add,Nat.reduceAdd] at ae;obtain⟨g,gc,rfl,eN,aG,bJ,cg,ah⟩:=Kc ae Ua;unfold maxLen at cg;have e0:=ah 0 _ rfl;have e1:=ah 1 _ rfl;have e2:=ah 2 _ rfl;clear ah ae)|(go_at_call 152;refine(aF _ Jb).mono ?_;rintro r w1 ⟨rfl,ac⟩;have ⟨ak,af⟩:=aft ac;(try simp at af);have bV:=alt ac;(try have eC:=Nr aG ac.size)))
 refine Jx Ug Ug (fun bj=>?_)
 repeat (quiet_step (fail))
 refine wpQuiet_nil ?_;intro wq au;replace au:=qbo au;obtain⟨au,dA,bh⟩:=au;clear bj
 (try simp at bh)
 have oO:=alt au
 go_wp2_with fail
 go_ret2
 exact⟨Vi,Jb⟩):p:=h
theorem Ua3{p:Prop}(h:p:=by
 clear dD;have HV:=Nf hv;clear hv
 go_enter Tryz.func132,Tryz.ntmps132
 go_wp2_with (first|(go_at_call 151;refine(av _ Jb).mono ?_;rintro r w1 ⟨⟨v,rfl,ae⟩,ac⟩;have ⟨ak,af⟩:=aft ac;(try simp at af);have bV:=alt ac;rw [dS] at ae;simp only [List.map_cons,List.map_nil,Nl,Nm,Nat.zero_add,Nat.reduceAdd] at ae;obtain⟨g,gc,rfl,eN,aG,bJ,cg,ah⟩:=Kc ae Ua;unfold maxLen at cg;have e0:=ah 0 _ rfl;have e1:=ah 1 _ rfl;clear ah ae)|(go_at_call 152;refine(aF _ Jb).mono ?_;rintro r w1 ⟨rfl,ac⟩;have ⟨ak,af⟩:=aft ac;(try simp at af);have bV:=alt ac;(try have eC:=Nr aG ac.size)))
 refine Jx Ug Ug (fun bj=>?_)
 repeat (quiet_step (fail))
 refine wpQuiet_nil ?_;intro wq au;replace au:=qbo au;obtain⟨au,dA,bh⟩:=au;clear bj
 (try simp at bh)
 have oO:=alt au
 go_wp2_with fail
 go_ret2
 exact⟨Vi,Jb⟩):p:=h
theorem Uec{p:Prop}(h:p:=by
 have HV:=Nf hv;clear hv
 go_enter Tryz.func132,Tryz.ntmps132
 go_wp2_with (first|(go_at_call 151;refine(av _ Jb).mono ?_;rintro r w1 ⟨⟨v,rfl,ae⟩,ac⟩;have ⟨ak,af⟩:=aft ac;(try simp at af);have bV:=alt ac;rw [dS] at ae;simp only [List.map_cons,List.map_nil,Nl,Nm,Nat.zero_add,Nat.reduceAdd] at ae;obtain⟨g,gc,rfl,eN,aG,bJ,cg,ah⟩:=Kc ae Ua;unfold maxLen at cg;have e0:=ah 0 _ rfl;have e1:=ah 1 _ rfl;clear ah ae)|(go_at_call 152;refine(aF _ Jb).mono ?_;rintro r w1 ⟨rfl,ac⟩;have ⟨ak,af⟩:=aft ac;(try simp at af);have bV:=alt ac;(try have eC:=Nr aG ac.size)))
 refine Jx Ug Ug (fun bj=>?_)
 repeat (quiet_step (fail))
 refine wpQuiet_nil ?_;intro wq au;replace au:=qbo au;obtain⟨au,dA,bh⟩:=au;clear bj
 (try simp at bh)
 have oO:=alt au
 go_wp2_with fail
 go_ret2
 exact⟨Vi,Jb⟩):p:=h
theorem Uei{p:Prop}(h:p:=by
 have ie:(n:Int) / 2 ^ (8 * k) % 256=((n / 256 ^ k % 256:Nat):Int):=by
  rw [show(256:Nat)=2 ^ 8 from rfl,<-Nat.pow_mul];simp
 have nn:byU (l ++ leB (k+1) n)=byU (l ++ leB k n) ++ [.int .u8 ((n:Int) / 2 ^ (8 * k) % 256)]:=by
  rw [Jgy,<-List.append_assoc,Jeu (l ++ leB k n),<-ie];rfl
 have vC:=Nf nn;clear nn ie
 go_wp2_with (at_builtin;refine Kap rfl (.tmp 40) (.tmp 47) 98 rfl w.heap.size 5 _ 1 1 Tryz.underlying98 Jgl rfl Ua (.slice A2 (l.length+k) c2) (l.length+k) (byU (l ++ leB k n)) _ 1 [.int .u8 ((n:Int) / 2 ^ (8 * k) % 256)] rfl Udk rfl rfl (fun j u hj=>U9) Uv Ua Ua U7 ?_;intro v2 w2 ao aq;have br:=aq.size;(try simp at br))
 go_roundw
 case rel=>exact⟨k+1,Ua,Up,Sm,(Jc ab _).trans aq⟩
 case measure=>simp [intOf];omega):p:=h
theorem Uen{p:Prop}(h:p:=by
 rw [if_pos Sf] at hv;have HV:=Nf hv;clear hv
 go_enter Tryz.func112,Tryz.ntmps112
 go_wp2_with (first|(at_lookup;refine Qh rfl (.tmp 17) (.tmp 19) 115 rfl Tryz.underlying9 Tryz.underlying115 Tryz.underlying3 (Kj _) B n (Qi l) q.name rfl Udh rfl hs ?_)|(at_lookup;refine Qb rfl (.tmp 32) (.tmp 34) 115 rfl Tryz.underlying9 Tryz.underlying115 Tryz.underlying3 (Kj _) Bd nd fd q.name rfl Udh rfl hs ?_)|(go_at_call_of 132 E2;refine mo (gA _ Jb) fun w1 ac ak af bV=>?_;(try simp at af);(try have cA:b<w1.heap.size:=by omega))|(go_at_call_of 132 E1;refine mo (ey _ Jb) fun w1 ac ak af bV=>?_;(try simp at af);(try have cA:b<w1.heap.size:=by omega)))
 go_ret;exact⟨Jm HV.out.symm,Jb⟩):p:=h
theorem Ueo{p:Prop}(h:p:=by
 clear ey;have HV:=Nf hv;clear hv
 go_enter Tryz.func112,Tryz.ntmps112
 go_wp2_with (first|(at_lookup;refine Qh rfl (.tmp 17) (.tmp 19) 115 rfl Tryz.underlying9 Tryz.underlying115 Tryz.underlying3 (Kj _) B n (Qi l) q.name rfl Udh rfl hs ?_)|(at_lookup;refine Qb rfl (.tmp 32) (.tmp 34) 115 rfl Tryz.underlying9 Tryz.underlying115 Tryz.underlying3 (Kj _) Bd nd fd q.name rfl Udh rfl hs ?_)|(go_at_call_of 132 E2;refine mo (gA _ Jb) fun w1 ac ak af bV=>?_;(try simp at af);(try have cA:b<w1.heap.size:=by omega))|(go_at_call_of 132 E1;refine mo (ey _ Jb) fun w1 ac ak af bV=>?_;(try simp at af);(try have cA:b<w1.heap.size:=by omega)))
 go_ret;exact⟨Jm HV.out.symm,Jb⟩):p:=h
theorem Uep{p:Prop}(h:p:=by
 have HV:=Nf hv;clear hv
 go_enter Tryz.func112,Tryz.ntmps112
 go_wp2_with (first|(at_lookup;refine Qh rfl (.tmp 17) (.tmp 19) 115 rfl Tryz.underlying9 Tryz.underlying115 Tryz.underlying3 (Kj _) B n (Qi l) q.name rfl Udh rfl hs ?_)|(at_lookup;refine Qb rfl (.tmp 32) (.tmp 34) 115 rfl Tryz.underlying9 Tryz.underlying115 Tryz.underlying3 (Kj _) Bd nd fd q.name rfl Udh rfl hs ?_)|(go_at_call_of 132 E2;refine mo (gA _ Jb) fun w1 ac ak af bV=>?_;(try simp at af);(try have cA:b<w1.heap.size:=by omega))|(go_at_call_of 132 E1;refine mo (ey _ Jb) fun w1 ac ak af bV=>?_;(try simp at af);(try have cA:b<w1.heap.size:=by omega)))
 go_ret;exact⟨Jm HV.out.symm,Jb⟩):p:=h
theorem Ufe{p:Prop}(h:p:=by
 simp [Je3,Jbl,eu] at hv;have HV:=Nf hv;clear hv
 go_enter Tryz.func132,Tryz.ntmps132
 go_wp2_with (first|(go_at_call 151;refine(av _ Jb).mono ?_;rintro r w1 ⟨⟨v,rfl,ae⟩,ac⟩;have ⟨ak,af⟩:=aft ac;(try simp at af);have bV:=alt ac;rw [dS] at ae;simp only [List.map_cons,List.map_nil,Nl,Nm,Nat.zero_add,Nat.reduceAdd] at ae;obtain⟨g,gc,rfl,eN,aG,bJ,cg,ah⟩:=Kc ae Ua;unfold maxLen at cg;have e0:=ah 0 _ rfl;clear ah ae)|(go_at_call 152;refine(aF _ Jb).mono ?_;rintro r w1 ⟨rfl,ac⟩;have ⟨ak,af⟩:=aft ac;(try simp at af);have bV:=alt ac;(try have eC:=Nr aG ac.size)))
 go_ret2
 exact⟨Vi,Jb⟩):p:=h
theorem Uff{p:Prop}(h:p:=by
 clear hr c1 c2;have HV:=Nf hv;clear hv
 go_enter Tryz.func89,Tryz.ntmps89
 go_wp2_with (first|(go_at_call 122;refine mo (cO _) fun w1 ac ak af bV=>?_;(try simp at af)))
 go_quiet ((go_at_call 123;exact Calls.quiet_of_same (fp _)))
 go_wp2_with fail
 refine Jo fun W1 bt=>?_;have q0:=Na W1 w.heap.size 0 op Lj;have q1:=Nb W1 w.heap.size 1 (.int .i32 n) Lj;have aC:=Nd w W1 G4;clear bt
 go_quiet ((go_at_call 123;exact Calls.quiet_of_same (fp _)))
 go_wp2_with fail
 go_ret;exact⟨Jm HV.out.symm,Jb⟩):p:=h
theorem Ufg{p:Prop}(h:p:=by
 have l1:((e.sub.length:Int) == 0)=false:=Lb;have aD:¬(e.sub.length:Int)=0:=Ua;have hv:Jl e.kind e.n e.name e.sub.length=false:=Vt;have HV:=Nf hv;clear hv;clear hk
 (try clear hl);(try clear aD);(try clear h);(try clear h2);(try clear h3);(try clear bd);(try clear bC)
 unfold exV
 go_enter Tryz.func161,Tryz.ntmps161
 go_wp2_with (first|(go_at_call 154;refine mo (aL _) fun w1 ac ak af bV=>?_;(try simp at af))|(go_at_call 175;refine(cp _).mono ?_;rintro r w1 ⟨rfl,rfl⟩))
 all_goals
  go_ret;exact⟨Jk HV.out.symm,Jb⟩):p:=h
theorem Ufh{p:Prop}(h:p:=by
 have l1:((e.sub.length:Int) == 1)=false:=Lb;have aD:¬(e.sub.length:Int)=1:=Ua;have hv:Jl e.kind e.n e.name e.sub.length=false:=Vt;have HV:=Nf hv;clear hv;clear hk
 (try clear hl);(try clear aD);(try clear h);(try clear h2);(try clear h3);(try clear bd);(try clear bC)
 unfold exV
 go_enter Tryz.func161,Tryz.ntmps161
 go_wp2_with (first|(go_at_call 154;refine mo (aL _) fun w1 ac ak af bV=>?_;(try simp at af))|(go_at_call 175;refine(cp _).mono ?_;rintro r w1 ⟨rfl,rfl⟩))
 all_goals
  go_ret;exact⟨Jk HV.out.symm,Jb⟩):p:=h
theorem Ufi{p:Prop}(h:p:=by
 have l1:((e.sub.length:Int) == 2)=false:=Lb;have aD:¬(e.sub.length:Int)=2:=Ua;have hv:Jl e.kind e.n e.name e.sub.length=false:=Vt;have HV:=Nf hv;clear hv;clear hk
 (try clear hl);(try clear aD);(try clear h);(try clear h2);(try clear h3);(try clear bd);(try clear bC)
 unfold exV
 go_enter Tryz.func161,Tryz.ntmps161
 go_wp2_with (first|(go_at_call 154;refine mo (aL _) fun w1 ac ak af bV=>?_;(try simp at af))|(go_at_call 175;refine(cp _).mono ?_;rintro r w1 ⟨rfl,rfl⟩))
 all_goals
  go_ret;exact⟨Jk HV.out.symm,Jb⟩):p:=h
theorem Ufj{p:Prop}(h:p:=by
 have hv:Jl e.kind e.n e.name e.sub.length=false:=by unfold Jl Jw;rw [hk];simp [Int.not_le.1 h2]
 have HV:=Nf hv;clear hv;clear hk
 (try clear hl);(try clear aD);(try clear h);(try clear h2);(try clear h3);(try clear bd);(try clear bC)
 unfold exV
 go_enter Tryz.func161,Tryz.ntmps161
 go_wp2_with (first|(go_at_call 154;refine mo (aL _) fun w1 ac ak af bV=>?_;(try simp at af))|(go_at_call 175;refine(cp _).mono ?_;rintro r w1 ⟨rfl,rfl⟩))
 all_goals
  go_ret;exact⟨Jk HV.out.symm,Jb⟩):p:=h
theorem Ufk{p:Prop}(h:p:=by
 have s1:decide (1<=e.n)=false:=Ve;have hv:Jl e.kind e.n e.name e.sub.length=false:=My;have HV:=Nf hv;clear hv;clear hk
 (try clear hl);(try clear aD);(try clear h);(try clear h2);(try clear h3);(try clear bd);(try clear bC)
 unfold exV
 go_enter Tryz.func161,Tryz.ntmps161
 go_wp2_with (first|(go_at_call 154;refine mo (aL _) fun w1 ac ak af bV=>?_;(try simp at af))|(go_at_call 175;refine(cp _).mono ?_;rintro r w1 ⟨rfl,rfl⟩))
 all_goals
  go_ret;exact⟨Jk HV.out.symm,Jb⟩):p:=h
theorem Ufl{p:Prop}(h:p:=by
 have bd:e.name.toList≠[]:=L1;have hv:Jl e.kind e.n e.name e.sub.length=false:=L0;have HV:=Nf hv;clear hv;clear hk
 (try clear hl);(try clear aD);(try clear h);(try clear h2);(try clear h3);(try clear bd);(try clear bC)
 unfold exV
 go_enter Tryz.func161,Tryz.ntmps161
 go_wp2_with (first|(go_at_call 154;refine mo (aL _) fun w1 ac ak af bV=>?_;(try simp at af))|(go_at_call 175;refine(cp _).mono ?_;rintro r w1 ⟨rfl,rfl⟩))
 all_goals
  go_ret;exact⟨Jk HV.out.symm,Jb⟩):p:=h
theorem Ufm{p:Prop}(h:p:=by
 rw [h3] at iB;have HV:=Nf hv;clear hv;generalize e.count 121=c1 at *;generalize Y6 e 13=c2 at *;clear h3
 go_enter Tryz.func119,Tryz.ntmps119
 go_wp2_with (first|(go_at_call 16;refine mo (av _ Jb) fun w1 ac ak af bV=>?_;(try simp at af))|(go_at_call 138;refine mo (qG _ Jb) fun w1 ac ak af bV=>?_;(try simp at af))|(go_at_call 139;refine mo (iB _ Jb) fun w1 ac ak af bV=>?_;(try simp at af)))
 go_ret;exact⟨Jm HV.out.symm,Jb⟩):p:=h
theorem Ufn{p:Prop}(h:p:=by
 have HV:=Nf hv;clear hv
 go_enter Tryz.func132,Tryz.ntmps132
 go_wp2_with (first|(go_at_call 151;refine(av _ Jb).mono ?_;rintro r w1 ⟨⟨v,rfl,ae⟩,ac⟩;have ⟨ak,af⟩:=aft ac;(try simp at af);have bV:=alt ac;rw [dS] at ae)|(go_at_call 152;refine(aF _ Jb).mono ?_;rintro r w1 ⟨rfl,ac⟩;have ⟨ak,af⟩:=aft ac;(try simp at af);have bV:=alt ac;(try have eC:=Nr aG ac.size)))
 go_ret2
 exact⟨Vi,Jb⟩):p:=h
theorem Ufo{p:Prop}(h:p:=by
 have HR:=Nf aa;clear aa hd hx
 go_wp2_with (first|(go_at_call 143;refine mo (Qt _ _) fun w1 ac ak af bV=>?_;(try simp at af))|(go_at_call 145;refine mo (aB _ Jb) fun w1 ac ak af bV=>?_;(try simp at af))|(go_at_call 146;refine mo (cU _ Jb) fun w1 ac ak af bV=>?_;(try simp at af))|(go_at_call 147;refine mo (bF _ Jb) fun w1 ac ak af bV=>?_;(try simp at af)))
 go_ret;exact⟨Jk HR.out,Jb⟩):p:=h
theorem Ufp{p:Prop}(h:p:=by
 have HV:=Nf hv;clear hv;clear hk
 (try clear hl);(try clear aD);(try clear h);(try clear h2);(try clear h3);(try clear bd);(try clear bC)
 unfold exV
 go_enter Tryz.func161,Tryz.ntmps161
 go_wp2_with (first|(go_at_call 154;refine mo (aL _) fun w1 ac ak af bV=>?_;(try simp at af))|(go_at_call 175;refine(cp _).mono ?_;rintro r w1 ⟨rfl,rfl⟩))
 all_goals
  go_ret;exact⟨Jk HV.out.symm,Jb⟩):p:=h
theorem Ufq{p:Prop}(h:p:=by
 have HV:=Nf hv;clear hv;unfold exV at fB gY iC ⊢
 go_enter Tryz.func145,Tryz.ntmps145
 go_wp2_with (first|(go_at_call 166;refine mo (fB _ Jb) fun w1 ac ak af bV=>?_;(try simp at af))|(go_at_call 167;refine mo (gY _ Jb) fun w1 ac ak af bV=>?_;(try simp at af))|(go_at_call 168;refine mo (iC _ Jb) fun w1 ac ak af bV=>?_;(try simp at af)))
 go_ret;exact⟨Jm HV.out.symm,Jb⟩):p:=h
theorem Ufr{p:Prop}(h:p:=by
 refine⟨Ns _,U2,rfl,fun _=>⟨w.heap.size+1,0,rfl,fun j u hj=>?_⟩⟩;have mX:=(Nh hj).1;rw [Ji3] at mX;rw [ag];simp only [Nl,Nm] at mX
 rcases(by omega:j=0\/j=1\/j=2\/j=3) with rfl|rfl|rfl|rfl <;> (simp [byU] at hj;subst hj;go_simp;rw [Go.Joins.cell_alloc_mark_at _ _ _ _ _ _ Ul];rfl)):p:=h
theorem Ufs{p:Prop}(h:p:=by
 have HV:=Nf hv;clear hv
 rcases tn with ⟨t8,t9⟩|⟨t8,t9⟩
 all_goals
  go_enter Tryz.func89,Tryz.ntmps89
  go_wp2_with (first|(go_at_call 122;refine mo (cO _) fun w1 ac ak af bV=>?_;(try simp at af)))
  go_quiet ((go_at_call 123;exact Calls.quiet_of_same (fp _)))
  go_wp2_with fail
  go_ret;exact⟨Jm HV.out.symm,Jb⟩):p:=h
theorem Uft{p:Prop}(h:p:=by
 rw [if_neg hd] at aa
 have bV:1<=y:=by
  rcases Nat.eq_zero_or_pos y with h0|h0
  ·subst h0;simp at cI;omega
  ·exact h0
 generalize UInt8.ofNat (48+m % 10)=d at aa bW;have HR:=Nf aa;clear aa
 go_wp2_with fail
 go_roundg y
 case measure=>omega
 case rel=>exact⟨m / 10,y,d :: ds,rfl,bV,Uj,cI,Up,Up,HR.out,Bb⟩):p:=h
theorem Ufu{p:Prop}(h:p:=by
 simp only [Bool.false_and,Bool.and_false,Bool.false_eq_true,if_false] at hR;have HV:=Nf hR;clear hR
 go_enter Tryz.func59,Tryz.ntmps59
 go_wp2_with (first|(go_at_call 88;refine mo (dV _ _ _) fun w1 ac ak af bV=>?_;(try simp at af)))
 go_ret;exact⟨Jm HV.out.symm,Jb⟩):p:=h
theorem Ufv{p:Prop}(h:p:=by
 have HV:=Nf hv;clear hv
 go_enter Tryz.func168,Tryz.ntmps168
 go_wp2_with (first|(go_at_call 177;refine(Jbm _ _).mono ?_;rintro r w1 ⟨rfl,rfl⟩)|(go_at_call 143;refine mo (Qt _ _) fun w1 ac ak af bV=>?_;(try simp at af)))
 go_ret;exact⟨Jk HV.out.symm,Jb⟩):p:=h
theorem Ufw{p:Prop}(h:p:=by
 rw [Bool.true_and] at aa;have HR:=Nf aa;clear aa hd hx
 go_wp2_with (first|(go_at_call 144;refine mo (dE _) fun w1 ac ak af bV=>?_;(try simp at af)))
 go_roundw
 case rel=>exact⟨k+1,Ke x false,Ua,Up,rfl,HR.out,Jb⟩
 case measure=>simp [intOf];omega):p:=h
theorem Ufx{p:Prop}(h:p:=by
 rw [h5] at hv;clear eV;have HV:=Nf hv;clear hv
 go_enter Tryz.func156,Tryz.ntmps156
 go_wp2_with (first|(go_at_call 119;refine mo (aB _ Jb) fun w1 ac ak af bV=>?_;(try simp at af)))
 go_ret;exact⟨Jk HV.out.symm,Jb⟩):p:=h
theorem Ufy{p:Prop}(h:p:=by
 have hw:Qp op=2:=by unfold Qp;rw [if_neg Ua,if_pos Ua]
 unfold Qj at h;dsimp only at h;rw [hw,if_neg Ux,if_neg Ux,if_neg Ua,if_neg Ua] at h
 by_cases h2:N<0\/65535<N
 ·rw [if_pos ⟨rfl,h2⟩] at h;exact absurd h Ux
 ·omega):p:=h
theorem Ufz{p:Prop}(h:p:=by
 rw [h] at cO;clear h;have HV:=Nf hv;clear hv
 go_enter Tryz.func89,Tryz.ntmps89
 go_wp2_with (first|(go_at_call 122;refine mo (cO _) fun w1 ac ak af bV=>?_;(try simp at af)))
 go_ret;exact⟨Jm HV.out.symm,Jb⟩):p:=h
theorem Uf0{p:Prop}(h:p:=by
 clear eV;have HV:=Nf hv;clear hv
 go_enter Tryz.func146,Tryz.ntmps146
 go_wp2_with (first|(go_at_call 145;refine mo (aB _ Jb) fun w1 ac ak af bV=>?_;(try simp at af)))
 go_ret;exact⟨Jk HV.out.symm,Jb⟩):p:=h
theorem Uf1{p:Prop}(h:p:=by
 have HV:=Nf hv;clear hv
 go_enter Tryz.func156,Tryz.ntmps156
 go_wp2_with (first|(go_at_call 119;refine mo (aB _ Jb) fun w1 ac ak af bV=>?_;(try simp at af)))
 go_ret;exact⟨Jk HV.out.symm,Jb⟩):p:=h
theorem Uf2{p:Prop}(h:p:=by
 go_wp2_with (first|(go_at_call 130;refine mo (eA _) fun w1 ac ak af bV=>?_;(try simp at af)))
 go_roundw
 case rel=>exact⟨k+1,_,Ua,Up,rfl,Uk,HR.out,Jb⟩
 case measure=>simp [intOf];omega):p:=h
theorem Uf3{p:Prop}(h:p:=by
 go_wp2_with (first|(go_at_call 135;refine mo (eA _) fun w1 ac ak af bV=>?_;(try simp at af)))
 go_roundw
 case rel=>exact⟨k+1,_,Ua,Up,rfl,Uk,HR.out,Jb⟩
 case measure=>simp [intOf];omega):p:=h
theorem Uf4{p:Prop}(h:p:=by
 clear hk
 go_enter Tryz.func148,Tryz.ntmps148
 go_wp2_with (first|(go_at_call 131;refine mo (az _ Jb) fun w1 ac ak af bV=>?_;(try simp at af)))
 go_ret;exact⟨Kk HV.out.symm,Jb⟩):p:=h
theorem Uf5{p:Prop}(h:p:=by
 clear hk
 go_enter Tryz.func158,Tryz.ntmps158
 go_wp2_with (first|(go_at_call 136;refine mo (az _ Jb) fun w1 ac ak af bV=>?_;(try simp at af)))
 go_ret;exact⟨Kk HV.out.symm,Jb⟩):p:=h
theorem Uf6{p:Prop}(h:p:=by
 clear hdep
 go_wp2_with fail
 go_roundw
 case rel=>exact⟨k+1,ps2,_,D',F',Ua,Up,rfl,HGO,sK,kj,HLAST,Nf hi.out.st⟩
 case measure=>simp [intOf];omega):p:=h
theorem Uf7{p:Prop}(h:p:=by
 show J3 _ (Xs p) A cap;rw [mK.out]
 repeat (first|(with_reducible exact cP)|refine J3.off ?_ (fun b off h=>by have:=yn.out b off h;omega) _ _)):p:=h
theorem Uf8{p:Prop}(h:p:=by exact Below.setCell (Below.setCell wK.out.bel (show w.heap.size<=w.heap.size+1+1 by omega) _) (show w.heap.size<=w.heap.size+1+1 by omega) _):p:=h
theorem Uf9{p:Prop}(h:p:=by
 go_wp2_with fail
 go_quiet (fail)
 go_wp2_with fail
 go_roundw
 case rel=>exact⟨k+1,Ua,Up,J8 ab _⟩
 case measure=>simp [intOf];omega):p:=h
theorem Uga{p:Prop}(h:p:=by
 go_roundw
 case rel=>exact⟨k+1,Ua,Up,Nf (by rw [eZ.out,List.map_append];exact sK.out),Jb⟩
 case measure=>simp [intOf];omega):p:=h
theorem Ugb{p:Prop}(h:p:=by repeat (first|(with_reducible exact wK.out.bel)|refine Below.setCell ?_ (show w.heap.size<=w.heap.size+1 by omega) _)):p:=h
theorem Ugc{p:Prop}(h:p:=by
 induction q with
 | nil=>rfl
 | cons y q ih=>rw [List.flatMap_cons,Nk,ih,Y4,Nl];omega):p:=h
theorem Ugd{p:Prop}(h:p:=by repeat (first|(with_reducible exact hfi)|refine Kn ?_ (fun b hb he=>by have:=(hfi.lt b hb).1;omega) _ _)):p:=h
theorem Uge{p:Prop}(h:p:=by
 obtain rfl:k=c.length:=Ua;rw [List.take_length] at ae
 go_wp2_with fail
 go_ret2
 exact⟨⟨_,rfl,ae⟩,ab⟩):p:=h
theorem Ugf{p:Prop}(h:p:=by
 rw [if_neg Ua,if_neg Ua,if_neg Ua,if_neg Ua,if_neg Ua,if_neg Ua,if_neg Ua];exact⟨Kao.push h0 Ua,Ul⟩):p:=h
theorem Ugg{p:Prop}(h:p:=by
 go_enter Tryz.func68,Tryz.ntmps68
 go_wp2_with fail
 go_ret;exact⟨⟨_,rfl,Ul,Ul,Kbq _ _ _ rfl Ul⟩,Jb⟩):p:=h
theorem Ugh{p:Prop}(h:p:=by
 obtain⟨A',cap',hv,aY⟩:=Jbh.of_own (Jy ae aQ);injection hv with e1 e2 e3;subst e1 e3;exact aY):p:=h
theorem Ugi{p:Prop}(h:p:=by
 unfold Y2 at ht
 cases jo:(K7 L e.name).2
 ·rw [if_pos ⟨Se,jo⟩] at ht;exact absurd ht Ux
 ·rfl):p:=h
theorem Ugj{p:Prop}(h:p:=by rw [if_neg Ux,if_neg Ux,if_neg Ua,if_neg Ua,if_neg Ua,if_neg Ua]):p:=h
theorem Ugk{p:Prop}(h:p:=by
 go_wp2_with fail
 go_ret;exact⟨Jm HV.out.symm,rfl⟩):p:=h
theorem Ugl{p:Prop}(h:p:=by rw [<-zf,List.getElem?_set_ne Ua];exact List.getElem?_set_self Ua):p:=h
theorem Ugm{p:Prop}(h:p:=by
 replace aa:(false && (List.drop (k+1) p.eqs).all eqB)=Qw p:=Vg;have HR:=Nf aa;clear aa hd hx
 go_wp2_with (first|(go_at_call 143;refine mo (Qt _ _) fun w1 ac ak af bV=>?_;(try simp at af))|(go_at_call 145;refine mo (aB _ Jb) fun w1 ac ak af bV=>?_;(try simp at af))|(go_at_call 146;refine mo (cU _ Jb) fun w1 ac ak af bV=>?_;(try simp at af))|(go_at_call 147;refine mo (bF _ Jb) fun w1 ac ak af bV=>?_;(try simp at af)))
 exact Ueg):p:=h
theorem Ugn{p:Prop}(h:p:=by
 refine Jj fun K hK=>?_;go_simp;refine hK _ _ ⟨dk,?_⟩;clear hK K
 try simp only [Act.put,sa1,sa2,sa3]
 refine Kh Ug ?_;refine Qx 16 ?_;refine Jj fun K hK=>?_;go_simp;refine hK _ _ ?_;clear hK K
 try simp only [Act.put,sa1,sa2,sa3]
 refine Ki Ug ?_;have jh:=Nd w wz (Jd aC cF);have fN:=K8 ae (show w.heap.size<=_ by first|omega|(simp;omega));clear ar dr dk kT
 go_wp2_with fail
 go_ret2
 exact⟨⟨_,rfl,fN⟩,jh⟩):p:=h
end Go.Proofs.YtknfcamdfdfoeaaGreatDoor
