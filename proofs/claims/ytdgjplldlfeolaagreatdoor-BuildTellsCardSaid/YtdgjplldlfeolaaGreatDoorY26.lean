/- Lemmas. -/
import Derived.Test.YtdgjplldlfeolaaGreatDoorMac
import Derived.Test.YtdgjplldlfeolaaGreatDoorY23
import Derived.Test.YtdgjplldlfeolaaGreatDoorY09
import Derived.Test.YtdgjplldlfeolaaGreatDoorY01
import Derived.Test.YtdgjplldlfeolaaGreatDoorY10
import Derived.BigRegion
import Derived.Test.YtdgjplldlfeolaaGreatDoorY00
import Derived.Test.YtdgjplldlfeolaaGreatDoorY12
import Derived.Test.YtdgjplldlfeolaaGreatDoorY02
set_option linter.unusedVariables false
set_option linter.unusedSimpArgs false
set_option maxRecDepth 100000
set_option maxHeartbeats 64000000
namespace Go.Proofs.YtdgjplldlfeolaaGreatDoor
open Go.RowKit Go.Sort Go.Maps
section
variable (X Bs Bf:Nat) (sl:ByteArray->Int) (fl:Int×ByteArray->Int) (e:Ex)
theorem Jzz (hk:e.kind=5) (hs:1<e.sub.length) (cE:e.size<=200000) (ih:∀x∈e.sub,Jag X Bs Bf sl fl x):Jag X Bs Bf sl fl e:=by
 intro A cap ck cs w hp he hc;obtain⟨bI,aD⟩:=he.len;unfold maxLen at aD;have hx:e.sub[0]?=some (e.sub[0]' Ua):=Ng _;have hy:e.sub[1]?=some e.sub[1]:=Ng hs;generalize e.sub[0]' Ua=x at hx;generalize e.sub[1]=y at hy;have hw:∀i,K4 e.kind e.name (ck,cs) i=(ck,cs):=Sj
 have hv:e.gen sl fl (ck,cs)=x.gen sl fl (ck,cs) ++ y.gen sl fl (ck,cs) ++ [(9,e.n)]:=by
  rw [Ex.gen_eq,Jae,if_neg Ua,if_neg Ua,if_pos hk,Ex.genL_get sl fl e.kind e.name (ck,cs) e.sub 0 0 x hx,Ex.genL_get sl fl e.kind e.name (ck,cs) e.sub 0 1 y hy,hw,hw]
 have eS:=Ex.gen_len sl fl e (ck,cs);rw [hv] at eS ⊢;have t3:(e.kind == 3)=false:=L3;have t4:(e.kind == 4)=false:=L3;have t5:(e.kind == 5)=true:=Lq;have HP:=Nf hp;have HE:=Nf he;have HX:=Nf hx;have HY:=Nf hy;have HC:=Nf hc;unfold exV;have HG:=Nf eS;clear hk hv hp he hc hw hx hy eS;have gZ:∀(fn:Fn) (first cap:Array Value) (w:World),(Instr.makeFunc fn first cap).run Tryz.prog w = .ok (.func fn first cap) w:=fun _ _ _ _=>rfl
 go_enter Tryz.func105,Tryz.ntmps105
 go_wp2_with fail
 refine Jo fun W0 ag=>?_;have ax:=Nd w W0 Uz;have bD:W0.heap.size=w.heap.size+3:=Vu;have p0:=Nb W0 w.heap.size 0 (.pointer (some ⟨X,0,none⟩)) Uf;have e0:=Na W0 (w.heap.size+1) 0 e.kind Uf;have e1:=Nb W0 (w.heap.size+1) 1 (.int .i32 e.n) Uf;have e2:=Nb W0 (w.heap.size+1) 2 (.string e.name) Uf;have e3:=Nb W0 (w.heap.size+1) 3 (.slice A e.sub.length cap) Uf;have k0:=Na W0 (w.heap.size+2) 0 ck Uf;have k1:=Nb W0 (w.heap.size+2) 1 (.string cs) Uf;have jl:=lt0 w W0;have bV:=ltA w 1 W0;have gq:=ltA w 2 W0;have hz:w.heap.size<=W0.heap.size:=Ua;clear ag gZ bD;have pp:=Jcw HX.out ih ⟨p0,e3,k0,k1⟩ (HP.out.later ax) (HE.out.later ax) HC.out;have ii:=Jcw HY.out ih ⟨p0,e3,k0,k1⟩ (HP.out.later ax) (HE.out.later ax) HC.out;have gK:(x.gen sl fl (ck,cs)).length+(y.gen sl fl (ck,cs)).length<=700000:=by have:=HG.out;rw [Nk,Nk] at this;omega
 generalize x.gen sl fl (ck,cs)=g at *;generalize y.gen sl fl (ck,cs)=h at *
 have ay:=Nf (fun(A1:Option Addr) (c1:Nat) (A2:Option Addr) (c2 g2:Nat) (W:World) (dN:Kos W g A1 c1) (dR:Kos W h A2 c2) (iI:Kos W [(9,e.n)] (some ⟨g2,0,none⟩) 1) (t:TypeId)=>
  Jc0 [⟨g,A1,c1⟩,⟨h,A2,c2⟩,⟨[(9,e.n)],some ⟨g2,0,none⟩,1⟩] (some ⟨W.heap.size,0,none⟩) 3
   (W.alloc (.cells #[.slice A1 g.length c1,.slice A2 h.length c2,.slice (some ⟨g2,0,none⟩) 1 1] t))
   (Jan rfl fun x hx=>by
    simp only [List.mem_cons,List.not_mem_nil,or_false] at hx
    rcases hx with rfl|rfl|rfl
    ·exact dN
    ·exact dR
    ·exact iI)
   Gh Uh)
 have gM:∀(A1:Option Addr) (c1:Nat) (A2:Option Addr) (c2 g2:Nat),Qu [⟨g,A1,c1⟩,⟨h,A2,c2⟩,⟨[(9,e.n)],some ⟨g2,0,none⟩,1⟩]=g ++ h ++ [(9,e.n)]:=fun _ _ _ _ _=>by simp [Qu]
 have wL:=Nf gM;clear gM
 go_region_law (go_simp;go_wp2_with (first
  | (go_at_call_of 119 (Value.int IntKind.i64 0);go_loud (refine(pp.out _ Jb).mono ?_;rintro r w1 ⟨⟨A1,c1,rfl,dN⟩,ac⟩;have d1:=Ja ac (Zw e1);have af:=ac.size;have cT:=Nd W0 w1 ((Jh (Nt)).trans (ac.mono Uh))))
  | (go_at_call_of 119 (Value.int IntKind.i64 1);go_loud (refine(ii.out _ cT).mono ?_;rintro r w2 ⟨⟨A2,c2,rfl,dR⟩,aq⟩;have d2:=Ja aq d1;have br:=aq.size;have cF:=cT.trans (aq.mono cT.size)))
  | (go_at_call_of 103 (Value.int IntKind.i64 9);go_loud (refine(Jak _ _ _).mono ?_;rintro r w3 ⟨⟨rfl,aE⟩,aM⟩;have iI:=Kos.one aE;have fe:=aM.size;have d3:=Ja aM d2;have cZ:=cF.trans (aM.mono cF.size);clear aE))
  | (go_at_call 102;go_loud (refine(ay.out _ _ _ _ _ w3 ((dN.later aq).later aM) (dR.later aM) iI _).mono ?_;rw [wL.out];intro r w4 aZ;obtain⟨⟨A4,c4,rfl,gP⟩,ei⟩:=aZ.at.less (Jc (ax.trans (cZ.mono ax.size)) _);clear aZ))))
 all_goals
  go_wp2_with fail
  go_ret;exact⟨⟨A4,c4,by rw [Nk,Nk];rfl,gP⟩,ei⟩
theorem Jz0 (hk:e.kind≠3/\e.kind≠4/\e.kind≠5/\e.kind≠6/\e.kind≠7/\e.kind≠8/\e.kind≠9/\e.kind≠10):Jag X Bs Bf sl fl e:=by
 intro A cap ck cs w hp he hc;obtain⟨bI,aD⟩:=he.len;unfold maxLen at aD;obtain⟨h3,h4,h5,h6,h7,h8,h9,bM⟩:=hk;have hv:e.gen sl fl (ck,cs) = [(1,e.n)]:=by rw [Ex.gen_eq];unfold Jae;simp [*]
 rw [hv];have t3:(e.kind == 3)=false:=S4;have t4:(e.kind == 4)=false:=by simpa using h4
 have t5:(e.kind == 5)=false:=by simpa using h5
 have t6:(e.kind == 6)=false:=by simpa using h6
 have t7:(e.kind == 7)=false:=by simpa using h7
 have t8:(e.kind == 8)=false:=by simpa using h8
 have t9:(e.kind == 9)=false:=by simpa using h9
 have t10:(e.kind == 10)=false:=F7;unfold exV;clear h3 h4 h5 h6 h7 h8 h9 bM hv hp he hc;have gZ:∀(fn:Fn) (first cap:Array Value) (w:World),(Instr.makeFunc fn first cap).run Tryz.prog w = .ok (.func fn first cap) w:=fun _ _ _ _=>rfl
 go_enter Tryz.func105,Tryz.ntmps105
 go_wp2_with (go_at_call_of 103 (Value.int IntKind.i64 1);go_loud (refine(Jak _ _ _).mono ?_;rintro r w1 ⟨⟨rfl,ba⟩,ac⟩;have dN:=Kos.one ba;have af:=ac.size;clear ba))
 go_ret;exact⟨⟨_,_,rfl,by simpa using dN⟩,Jb⟩
end
theorem Jkh (w:World) (X:Nat) (v0 v1 v2:Value) (A:Option Addr) (len cap:Nat) (ck:Int) (cs:ByteArray) (t1 t2 t3:TypeId):Jge (((w.alloc (.cells #[.pointer (some ⟨X,0,none⟩)] t1)).alloc (.cells #[v0,v1,v2,.slice A len cap] t2)).alloc (.cells #[.int .i64 ck,.string cs] t3)) w.heap.size (w.heap.size+1) (w.heap.size+1+1) X A len cap ck cs:=
 ⟨Uc,Uc,Uc,Uc⟩
section
variable (X Bs Bf:Nat) (sl:ByteArray->Int) (fl:Int×ByteArray->Int) (e:Ex)
theorem Kae (hk:e.kind=6) (hs:2<e.sub.length) (cE:e.size<=200000) (ih:∀x∈e.sub,Jag X Bs Bf sl fl x):Jag X Bs Bf sl fl e:=by
 intro A cap ck cs w hp he hc;obtain⟨bI,aD⟩:=he.len;unfold maxLen at aD;have hx:e.sub[0]?=some (e.sub[0]' Ua):=Ng _;have hy:e.sub[1]?=some (e.sub[1]' Ua):=Ng _;have hz:e.sub[2]?=some e.sub[2]:=Ng hs;generalize e.sub[0]' Ua=x at hx;generalize e.sub[1]' Ua=y at hy;generalize e.sub[2]=z at hz;have hw:∀i,K4 e.kind e.name (ck,cs) i=(ck,cs):=Sj
 have hv:e.gen sl fl (ck,cs)=Yv (x.gen sl fl (ck,cs)) (y.gen sl fl (ck,cs)) (z.gen sl fl (ck,cs)):=by
  rw [Ex.gen_eq,Jae,if_neg Ua,if_neg Ua,if_neg Ua,if_pos hk,Ex.genL_get sl fl e.kind e.name (ck,cs) e.sub 0 0 x hx,Ex.genL_get sl fl e.kind e.name (ck,cs) e.sub 0 1 y hy,Ex.genL_get sl fl e.kind e.name (ck,cs) e.sub 0 2 z hz,hw,hw,hw]
 have eS:=Ex.gen_len sl fl e (ck,cs);rw [hv] at eS ⊢;rw [Ex.choice_len] at eS;have t3:(e.kind == 3)=false:=L3;have t4:(e.kind == 4)=false:=L3;have t5:(e.kind == 5)=false:=L3;have t6:(e.kind == 6)=true:=Lq;have sG:∀(o1 o2 o3:Obj),Below w.heap.size w (((w.alloc o1).alloc o2).alloc o3):=fun _ _ _=>Jc (Jc (Jc (Nt) _) _) _;have pp:=Jcw hx ih (Jkh w X (.int .i64 e.kind) (.int .i32 e.n) (.string e.name) A e.sub.length cap ck cs 200 73 81) (hp.later (sG _ _ _)) (he.later (sG _ _ _)) hc;have ii:=Jcw hy ih (Jkh w X (.int .i64 e.kind) (.int .i32 e.n) (.string e.name) A e.sub.length cap ck cs 200 73 81) (hp.later (sG _ _ _)) (he.later (sG _ _ _)) hc;have gL:=Jcw hz ih (Jkh w X (.int .i64 e.kind) (.int .i32 e.n) (.string e.name) A e.sub.length cap ck cs 200 73 81) (hp.later (sG _ _ _)) (he.later (sG _ _ _)) hc;unfold exV;clear hk hv hp he hc hw hx hy hz;have gZ:∀(fn:Fn) (first cap:Array Value) (w:World),(Instr.makeFunc fn first cap).run Tryz.prog w = .ok (.func fn first cap) w:=fun _ _ _ _=>rfl;have gK:(x.gen sl fl (ck,cs)).length+(y.gen sl fl (ck,cs)).length+(z.gen sl fl (ck,cs)).length<=700000:=Ua;clear eS;generalize x.gen sl fl (ck,cs)=g at *;generalize y.gen sl fl (ck,cs)=h at *;generalize z.gen sl fl (ck,cs)=k at *
 go_enter Tryz.func105,Tryz.ntmps105
 go_wp2_with (first
  | (go_at_call_of 119 (Value.int IntKind.i64 0);go_loud (refine(pp.out _ (Nt)).mono ?_;rintro r w1 ⟨⟨A1,c1,rfl,dN⟩,ac⟩;have af:=ac.size))
  | (go_at_call_of 119 (Value.int IntKind.i64 1);go_loud (refine(ii.out _ ac).mono ?_;rintro r w2 ⟨⟨A2,c2,rfl,dR⟩,aq⟩;have br:=aq.size;have cF:=ac.trans (aq.mono af)))
  | (go_at_call_of 119 (Value.int IntKind.i64 2);go_loud (refine(gL.out _ cF).mono ?_;rintro r w3 ⟨⟨A3,c3,rfl,iI⟩,aM⟩;have fe:=aM.size;have cZ:=(sG _ _ _).trans (Below.mono (cF.trans (aM.mono cF.size)) (sG _ _ _).size)))
  | (go_at_call 120;go_loud (refine(Jg5 g h k _ _ _ _ _ _ w3 ((dN.later aq).later aM) (dR.later aM) iI Ua).mono ?_;intro r w4 aZ;obtain⟨⟨A4,c4,rfl,gP⟩,ei⟩:=aZ.at.less cZ;clear aZ)))
 go_ret;exact⟨⟨A4,c4,rfl,gP⟩,ei⟩
theorem Jz5 (hk:e.kind=7) (hs:1<e.sub.length) (cE:e.size<=200000) (ih:∀x∈e.sub,Jag X Bs Bf sl fl x):Jag X Bs Bf sl fl e:=by
 intro A cap ck cs w hp he hc;obtain⟨bI,aD⟩:=he.len;unfold maxLen at aD;have hx:e.sub[0]?=some (e.sub[0]' Ua):=Ng _;have hy:e.sub[1]?=some e.sub[1]:=Ng hs;generalize e.sub[0]' Ua=x at hx;generalize e.sub[1]=y at hy;have hw:∀i,K4 e.kind e.name (ck,cs) i=(ck,cs):=Sj
 have hv:e.gen sl fl (ck,cs)=Yv [(4,fl (ck,cs))] (y.gen sl fl (ck,cs)) (x.gen sl fl (ck,cs)):=by
  rw [Ex.gen_eq,Jae,if_neg Ua,if_neg Ua,if_neg Ua,if_neg Ua,if_pos hk,Ex.genL_get sl fl e.kind e.name (ck,cs) e.sub 0 0 x hx,Ex.genL_get sl fl e.kind e.name (ck,cs) e.sub 0 1 y hy,hw,hw]
 have eS:=Ex.gen_len sl fl e (ck,cs);rw [hv] at eS ⊢;rw [Ex.choice_len] at eS;have t3:(e.kind == 3)=false:=L3;have t4:(e.kind == 4)=false:=L3;have t5:(e.kind == 5)=false:=L3;have t6:(e.kind == 6)=false:=L3;have t7:(e.kind == 7)=true:=Lq;have HP:=Nf hp;have HE:=Nf he;have HX:=Nf hx;have HY:=Nf hy;have HC:=Nf hc;unfold exV;have HG:=Nf eS;clear hk hv hp he hc hw hx hy eS;have gZ:∀(fn:Fn) (first cap:Array Value) (w:World),(Instr.makeFunc fn first cap).run Tryz.prog w = .ok (.func fn first cap) w:=fun _ _ _ _=>rfl
 go_enter Tryz.func105,Tryz.ntmps105
 go_wp2_with fail
 refine Jo fun W0 ag=>?_;have ax:=Nd w W0 Uz;have bD:W0.heap.size=w.heap.size+3:=Vu;have p0:=Nb W0 w.heap.size 0 (.pointer (some ⟨X,0,none⟩)) Uf;have e0:=Na W0 (w.heap.size+1) 0 e.kind Uf;have e1:=Nb W0 (w.heap.size+1) 1 (.int .i32 e.n) Uf;have e2:=Nb W0 (w.heap.size+1) 2 (.string e.name) Uf;have e3:=Nb W0 (w.heap.size+1) 3 (.slice A e.sub.length cap) Uf;have k0:=Na W0 (w.heap.size+2) 0 ck Uf;have k1:=Nb W0 (w.heap.size+2) 1 (.string cs) Uf;have jl:=lt0 w W0;have bV:=ltA w 1 W0;have gq:=ltA w 2 W0;have hz:w.heap.size<=W0.heap.size:=Ua;clear ag gZ bD;have pp:=Jcw HX.out ih ⟨p0,e3,k0,k1⟩ (HP.out.later ax) (HE.out.later ax) HC.out;have ii:=Jcw HY.out ih ⟨p0,e3,k0,k1⟩ (HP.out.later ax) (HE.out.later ax) HC.out;have gK:(x.gen sl fl (ck,cs)).length+(y.gen sl fl (ck,cs)).length<=700000:=by have:=HG.out;omega
 generalize x.gen sl fl (ck,cs)=g at *;generalize y.gen sl fl (ck,cs)=h at *;have dS:=HP.out.later ax;obtain⟨c0,c2,_,⟨n,f,c,hm,hf⟩⟩:=dS;have hX:X<W0.heap.size:=Nu c0;have hlk:=Jcb (w:=W0.drew) (Jl0) (x:= .agg #[.int .i64 ck,.string cs]) Tryz.underlying206 Tryz.underlying21 (Jbp _) rfl hm.drew HC.out (hf _ HC.out);clear hm hf
 go_region_law (go_simp;go_wp2_with (first
  | (go_at_call_of 103 (Value.int IntKind.i64 4);go_loud (refine(Jak _ _ _).mono ?_;rintro r w1 ⟨⟨rfl,ba⟩,ac⟩;have dN:=Kos.one ba;have af:=ac.size;have cT:=Nd W0 w1 ((Jh (Nt)).trans (ac.mono Uh));clear ba))
  | (go_at_call_of 119 (Value.int IntKind.i64 1);go_loud (refine(ii.out _ cT).mono ?_;rintro r w2 ⟨⟨A2,c2',rfl,dR⟩,aq⟩;have br:=aq.size;have cF:=cT.trans (aq.mono cT.size)))
  | (go_at_call_of 119 (Value.int IntKind.i64 0);go_loud (refine(pp.out _ cF).mono ?_;rintro r w3 ⟨⟨A3,c3',rfl,iI⟩,aM⟩;have fe:=aM.size;have cZ:=cF.trans (aM.mono cF.size)))
  | (go_at_call 120;go_loud (refine(Jg5 [(4,fl (ck,cs))] h g _ _ _ _ _ _ w3 ((dN.later aq).later aM) (dR.later aM) iI Ui).mono ?_;intro r w4 aZ;obtain⟨⟨A4,c4,rfl,gP⟩,ei⟩:=aZ.at.less (ax.trans (cZ.mono ax.size));clear aZ))))
 all_goals
  go_wp2_with fail
  go_ret;exact⟨⟨A4,c4,rfl,gP⟩,ei⟩
end
end Go.Proofs.YtdgjplldlfeolaaGreatDoor
namespace Go.Proofs.YtdgjplldlfeolaaGreatDoor
open Go.RowKit Go.Sort Go.Maps Go.ChangeMaps Go.WideMaps
def X7 (l:List Ce):List Value:=l.flatMap fun c=>[.string c.name,.int .i64 c.ck,.string c.cn,.int .i32 c.first]
theorem Jph:∀l:List Ce,(X7 l).length=l.length * 4
 | []=>rfl
 | x :: l=>by
  have:=Jph l;unfold X7 at this ⊢;rw [List.flatMap_cons,Nk,this,Nl];exact Ui
theorem Jdh:∀(l:List Ce) (k:Nat) (x:Ce),l[k]?=some x->(X7 l)[k * 4]?=some (.string x.name)/\(X7 l)[k * 4+1]?=some (.int .i64 x.ck)/\(X7 l)[k * 4+2]?=some (.string x.cn)/\(X7 l)[k * 4+3]?=some (.int .i32 x.first)
 | [],k,x,h=>Lc
 | y :: l,0,x,h=>by simp at h;subst h;exact⟨rfl,rfl,rfl,rfl⟩
 | y :: l,k+1,x,h=>by
  have aY:=Jdh l k x Vl;have e:X7 (y :: l) = [.string y.name,.int .i64 y.ck,.string y.cn,.int .i32 y.first] ++ X7 l:=rfl
  have e2:∀j,(X7 (y :: l))[(k+1) * 4+j]?=(X7 l)[k * 4+j]?:=fun j=>by
   rw [e,List.getElem?_append_right Ui]
   congr 1
   simp;omega
  exact⟨by have:=e2 0;simp only [Nat.add_zero] at this;rw [this];exact aY.1,by rw [e2 1];exact aY.2.1,by rw [e2 2];exact aY.2.2.1,by rw [e2 3];exact aY.2.2.2⟩
def Jbh (w:World) (l:List Ce) (A:Option Addr) (cap:Nat):Prop:=l.length<=cap/\cap<=maxLen/\X6 w A l.length 4 (X7 l)
theorem Jbh.later {w w':World} {l:List Ce} {A:Option Addr} {cap:Nat} (h:Jbh w l A cap) (hb:Below w.heap.size w w'):Jbh w' l A cap:=⟨h.1,h.2.1,Jds h.2.2 hb⟩
theorem Qa (W:World) (b i:Nat) (o:Obj) (h:i≠b):(setBlock W b o).heap[i]?=W.heap[i]?:=by
 unfold setBlock;simp [Array.getElem?_setIfInBounds,h.symm,h]
theorem Xc (W:World) (b:Nat) (o:Obj) (h:b<W.heap.size):(setBlock W b o).heap[b]?=some o:=by
 unfold setBlock;simp [Array.getElem?_setIfInBounds,h]
theorem Yo (W:World) (b:Nat) (o:Obj):(setBlock W b o).heap.size=W.heap.size:=Dy
theorem Jd9 (W:World) (b i j:Nat) (o:Obj) (h:i≠b):(setBlock W b o).cell? ⟨i,j,none⟩=W.cell? ⟨i,j,none⟩:=World.cell?_of_block (Qa W b i o h)
theorem Jgd (W:World) (b:Nat) (o:Obj):W.grownBy (setBlock W b o) (some b):=⟨rfl,rfl,rfl,Dy,fun i _ hi=>Qa W b i o (fun e=>hi (by rw [e]))⟩
theorem Jly {n:Int} (h:I32 n):(Lit.int .i32 n).wf=true:=by
 unfold I32 at h;simp [Lit.wf,IntKind.min,IntKind.max,IntKind.signed,IntKind.bits];omega
def okI (i:Int):Prop:=(Lit.int .i32 i).wf=true
end Go.Proofs.YtdgjplldlfeolaaGreatDoor
namespace Go.Proofs.YtdgjplldlfeolaaGreatDoor
open Go.RowKit Go.Sort Go.Maps
section
variable (X Bs Bf:Nat) (sl:ByteArray->Int) (fl:Int×ByteArray->Int) (e:Ex)
theorem Ju0 (hk:e.kind=8\/e.kind=9) (hs:0<e.sub.length) (ih:∀x∈e.sub,Jag X Bs Bf sl fl x):Jag X Bs Bf sl fl e:=by
 intro A cap ck cs w hp he hc;obtain⟨bI,aD⟩:=he.len;unfold maxLen at aD;have hx:e.sub[0]?=some e.sub[0]:=Ng hs;generalize e.sub[0]=x at hx;have sF:=ih x (Ni hx)
 have hw:K4 e.kind e.name (ck,cs) 0=(0,⟨#[]⟩):=by
  unfold K4;rw [if_neg Ua,if_pos Ua]
 have hv:e.gen sl fl (ck,cs)=x.gen sl fl (0,⟨#[]⟩):=by
  rw [Ex.gen_eq,Jae,if_neg Ua,if_neg Ua,if_neg Ua,if_neg Ua,if_neg Ua,if_pos hk,Ex.genL_get sl fl e.kind e.name (ck,cs) e.sub 0 0 x hx,hw]
 rw [hv];have t3:(e.kind == 3)=false:=Ui;have t4:(e.kind == 4)=false:=Ui;have t5:(e.kind == 5)=false:=Ui;have t6:(e.kind == 6)=false:=Ui;have t7:(e.kind == 7)=false:=Ui
 have t89:(e.kind == 8)=true\/(e.kind == 8)=false/\(e.kind == 9)=true:=by
  rcases hk with h|h
  ·exact .inl (by simp [h])
  ·exact .inr ⟨by simp [h],by simp [h]⟩
 have HP:=Nf hp;have HE:=Nf he;have HX:=Nf hx;clear hk hv hp he hc hw hx ih
 rcases t89 with t8|⟨t8,t9⟩
 all_goals
  unfold exV;have gZ:∀(fn:Fn) (first cap:Array Value) (w:World),(Instr.makeFunc fn first cap).run Tryz.prog w = .ok (.func fn first cap) w:=fun _ _ _ _=>rfl
  go_enter Tryz.func105,Tryz.ntmps105
  go_wp2_with fail
  refine Jo fun W0 ag=>?_;have ax:=Nd w W0 Uz;have bD:W0.heap.size=w.heap.size+3:=Vu;have p0:=Nb W0 w.heap.size 0 (.pointer (some ⟨X,0,none⟩)) Uf;have e0:=Na W0 (w.heap.size+1) 0 e.kind Uf;have e1:=Nb W0 (w.heap.size+1) 1 (.int .i32 e.n) Uf;have e2:=Nb W0 (w.heap.size+1) 2 (.string e.name) Uf;have e3:=Nb W0 (w.heap.size+1) 3 (.slice A e.sub.length cap) Uf;have k0:=Na W0 (w.heap.size+2) 0 ck Uf;have k1:=Nb W0 (w.heap.size+2) 1 (.string cs) Uf;have jl:=lt0 w W0;have bV:=ltA w 1 W0;have gq:=ltA w 2 W0;have hz:w.heap.size<=W0.heap.size:=Ua;clear ag gZ bD;obtain⟨b,off,A',cap',hA,c0,c1,c2,c3,bd⟩:=(HE.out.later ax).get HX.out;subst hA;simp only [Nat.zero_mul,Nat.add_zero] at c0 c1 c2 c3;have aH:=Nu c0;have az:=sF A' cap' 0 ⟨#[]⟩ W0.drew (HP.out.later ax).drew (bd.later (Jh (Nt))) ⟨Vy,Ug⟩;unfold exV at az;have HCA:=Nf az;clear az bd
  go_region_law (go_simp;go_wp2_with (go_at_call 105;go_loud (refine HCA.out.mono ?_;rintro r w1 ⟨⟨A1,c1',rfl,dN⟩,ac⟩)))
  all_goals
   go_wp2_with fail
   go_ret;exact⟨⟨_,_,rfl,dN⟩,ax.trans (Below.mono ((Jh (Nt)).trans (ac.mono Uh)) hz)⟩
end
end Go.Proofs.YtdgjplldlfeolaaGreatDoor
namespace Go.Proofs.YtdgjplldlfeolaaGreatDoor
open Go.RowKit
def Jc3 (x:Ce) (d:Int×ByteArray):Prop:=x.name.toList.isEmpty=true/\K9 x.ck x.cn d.1 d.2=true
theorem Jlk (x:Ce) (d:Int×ByteArray) (hx:Jc3 x d):∀(l:List Ce) (i:Nat),(∀u∈l,¬Jc3 u d)->Jav i (l ++ [x]) d=((i+l.length:Nat):Int)
 | [],i,_=>by
  unfold Jc3 at hx;simp only [List.nil_append,Jav];rw [if_pos hx];rfl
 | u :: l,i,h=>by
  have h1:=h u Uh;unfold Jc3 at h1;rw [List.cons_append,Jav,if_neg h1,Jlk x d hx l (i+1) fun y hy=>h y Mx,Nl]
  congr 1;omega
theorem Jk5 (x:Ce) (d:Int×ByteArray) (hx:¬Jc3 x d):∀(l:List Ce) (i:Nat),Jav i (l ++ [x]) d=Jav i l d
 | [],i=>by
  unfold Jc3 at hx;simp only [List.nil_append,Jav];rw [if_neg hx]
 | u :: l,i=>by
  rw [List.cons_append,Jav,Jav]
  split
  ·exact Gp
  ·exact Jk5 x d hx l (i+1)
theorem Jee (x:Ce) (d:Int×ByteArray):(x.name.toList.isEmpty=true/\d.1=x.ck/\d.2.data=x.cn.data)<->Jc3 x d:=by
 unfold Jc3;rw [Jdg]
 constructor
 ·rintro⟨h1,h2,h3⟩;exact⟨h1,h2.symm,by rw [Jxo.1 h3]⟩
 ·rintro⟨h1,h2,h3⟩;exact⟨h1,h2.symm,by rw [Jej h3]⟩
theorem Jtp (d:Int×ByteArray):∀l:List Ce,Jha l->(Jeg l d).getD 0=Kg l d:=by
 refine Jgj (fun _=>rfl) fun l x ih h=>?_;unfold Jha at h ih;rw [List.pairwise_append] at h;rw [Jef];unfold Kg at ih ⊢
 by_cases hx:Jc3 x d
 ·rw [if_pos ((Jee x d).2 hx),Jlk x d hx l 0 fun u hu hud=>?_]
  ·exact Uh
  ·have h1:=(Jee x d).2 hx;have h2:=(Jee u d).2 hud;exact h.2.2 u hu x Uh h2.1 h1.1 (Prod.ext (h2.2.1.symm.trans h1.2.1) (Jxo.1 (h2.2.2.symm.trans h1.2.2)))
 ·rw [if_neg (fun he=>hx ((Jee x d).1 he)),Jk5 x d hx];exact ih h.1
structure Juk (v:Va):Prop where
 name:v.name.size<=16
 ne:v.name.toList.isEmpty=false
 cn:v.cn.size<=16
 ck:v.ck=0\/v.ck=1\/v.ck=2
structure Jtw (q:Qe):Prop where
 name:q.name.size<=16
 ne:q.name.toList.isEmpty=false
 right:q.e.right=0
 formed:q.e.formed=true
 size:q.e.size<=120
 depth:q.e.depth<=12
 first:q.first.kind=4->∃x r,q.first.sub=x :: r
 delay:q.delay=0\/q.delay=1\/q.delay=2
 pre:q.delay=2->Jai q.first=0
structure Jay (p:Pr):Prop where
 order:(Kot p).2=(0,0,0)
 clk:Qg p=(0,0,0)
 chk:J7 p=(0,0,0)
 whole:Qw p=true
 dist:Jb4 (Je p)
 nodup:((Je p).map (·.name)).Nodup
 small:p.ins.length<=8/\p.outs.length<=8/\(Je p).length<=24/\p.eqs.length<=24
 vars:∀v∈Je p,Juk v
 eqs:∀q∈p.eqs,Jtw q
 vof:∀q∈p.eqs,∃v∈Je p,v.name=q.name/\J9 (Je p) q.name=(v.ck,v.cn)
theorem Jeb {v:Va} {b:Bool} (h:Ke v b=true):Juk v:=by
 simp only [Ke,Bool.and_eq_true] at h;have h3:=h.2;have h1:=h.1.1;refine⟨Jaf h1,Jbx h1,?_,?_⟩
 ·by_cases h0:v.ck=0
  ·rw [if_pos h0] at h3;exact Jgu (.inr h3)
  ·rw [if_neg h0] at h3
   by_cases h4:v.ck=1\/v.ck=2
   ·rw [if_pos h4,Bool.and_eq_true] at h3;exact Jaf h3.2
   ·rw [if_neg h4] at h3;simp at h3
 ·by_cases h0:v.ck=0
  ·exact .inl h0
  ·rw [if_neg h0] at h3
   by_cases h4:v.ck=1\/v.ck=2
   ·exact .inr h4
   ·rw [if_neg h4] at h3;simp at h3
theorem Jn2 {e:Ex} (h:e.literal=true) (hk:e.kind=4):∃x r,e.sub=x :: r:=by
 unfold Ex.literal at h
 split at h
 ·split at h
  ·cases hs:e.sub with
   | nil=>rw [hs] at h;simp at h
   | cons x r=>exact⟨x,r,rfl⟩
  ·rw [hk] at h;simp at h
 ·exact Lc
theorem Jns {e:Ex} (h:e.same Ex.zero=true):e.kind=0/\e.n=0:=by
 rw [Ex.same_eq] at h;simp only [Bool.and_eq_true,beq_iff_eq] at h;exact⟨h.1.1.1.1,h.1.1.1.2⟩
theorem Jv0 {q:Qe} (h:eqB q=true):Jtw q:=by
 simp only [eqB,Bool.and_eq_true,beq_iff_eq] at h;obtain⟨⟨h1,h2⟩,h3⟩:=h;obtain⟨r1,r2,r3⟩:=Ex.right_zero.1 h2;have cE:=Ex.count_size q.e 121 Ua;refine⟨Jaf h1,Jbx h1,h2,r3,Ua,r2,fun hk=>?_,?_,fun hd=>?_⟩
 ·by_cases d1:q.delay=1
  ·rw [if_pos d1] at h3;exact Jn2 h3 hk
  ·rw [if_neg d1] at h3
   split at h3
   ·have:=(Jns h3).1;rw [hk] at this;exact absurd this Ug
   ·cases h3
 ·by_cases d1:q.delay=1
  ·exact .inr (.inl d1)
  ·rw [if_neg d1] at h3
   split at h3
   ·rename_i hd;rcases hd with hd|hd
    ·exact .inl hd
    ·exact .inr (.inr hd)
   ·cases h3
 ·rw [if_neg Ua,if_pos (.inr hd)] at h3;obtain⟨h4,h5⟩:=Jns h3;unfold Jai;rw [if_neg Ua,h5]
theorem Jp3 {α:Type} : ∀(l m:List α),l.Nodup->(∀x∈l,x∈m)->l.length<=m.length
 | [],m,_,_=>Uh
 | x :: l,m,h,hs=>by
  obtain⟨a,b,hm⟩:=List.append_of_mem (hs x Uh);have hn:=List.nodup_cons.1 h
  have:=Jp3 l (a ++ b) hn.2 fun y hy=>by
   have h1:=hs y Mx;rw [hm] at h1;have aS:y≠x:=fun he=>hn.1 (he ▸ hy)
   rcases List.mem_append.1 h1 with h2|h2
   ·exact List.mem_append.2 (.inl h2)
   ·rcases List.mem_cons.1 h2 with h3|h3
    ·exact absurd h3 aS
    ·exact List.mem_append.2 (.inr h3)
  rw [hm];simp only [Nk,Nl] at this ⊢;exact Ua
theorem Jgp:∀ {L:List Va},Jb4 L->(L.map (·.name)).Nodup
 | [],_=>Uh
 | v :: L,h=>by
  obtain⟨h1,h2⟩:=h.tail;rw [List.map_cons,List.nodup_cons];refine⟨fun hm=>?_,Jgp h1⟩;obtain⟨u,hu,hn⟩:=List.mem_map.1 hm;exact h2 u hu hn
theorem Jsv {l:List Qe} (h:l.Pairwise (fun a b=>a.name≠b.name)):(l.map (·.name)).Nodup:=by
 unfold List.Nodup;rw [List.pairwise_map];exact h
theorem Jvz {p:Pr} (h:J7 p=(0,0,0)):p.ins.length<=8/\p.outs.length<=8/\(Je p).length<=24:=by
 unfold J7 at h
 split at h
 ·rename_i h1;rw [Prod.mk.injEq,Prod.mk.injEq] at h;omega
 ·split at h
  ·rw [Prod.mk.injEq,Prod.mk.injEq] at h;omega
  ·exact Ua
theorem Jff {p:Pr} (h:Ks p=(0,0,0)):Jay p:=by
 have hO:=(Jsu h).1;have aN:=(Yg hO).1;have hc:=(Xk aN).1;obtain⟨jn,gG,_⟩:=Xp hc;have kD:=jn;simp only [Qw,Bool.and_eq_true,List.all_eq_true] at kD;obtain⟨ci,_,_⟩:=Jbe hc
 have xr:∀q∈p.eqs,∃v∈Je p,v.name=q.name/\J9 (Je p) q.name=(v.ck,v.cn):=fun q hq=>by
  obtain⟨v,hm,_,hn,bO,_⟩:=Ja3 aN hq;exact⟨v,hm,hn,bO⟩
 have jN:=Jvz hc
 have nn:p.eqs.length<=(Je p).length:=by
  have:=Jp3 (p.eqs.map (·.name)) ((Je p).map (·.name)) (Jsv ci) fun s hs=>by
   obtain⟨q,hq,rfl⟩:=List.mem_map.1 hs;obtain⟨v,hv,hn,_⟩:=xr q hq;exact List.mem_map.2 ⟨v,hv,hn⟩
  simpa using this
 refine⟨hO,aN,hc,jn,gG,Jgp gG,⟨jN.1,jN.2.1,jN.2.2,Ua⟩,fun v hv=>?_,fun q hq=>Jv0 (kD.2 q hq),xr⟩;simp only [Je,List.mem_append] at hv
 rcases hv with (hv|hv)|hv
 ·exact Jeb (kD.1.1.1.2 v hv)
 ·exact Jeb (kD.1.1.2 v hv)
 ·exact Jeb (kD.1.2 v hv)
theorem Jay.clock {p:Pr} (h:Jay p) {q:Qe} (hq:q∈p.eqs):(J9 (Je p) q.name).2.size<=16/\((J9 (Je p) q.name).1=0\/(J9 (Je p) q.name).1=1\/(J9 (Je p) q.name).1=2):=by
 obtain⟨v,hv,_,bO⟩:=h.vof q hq;rw [bO];exact⟨(h.vars v hv).cn,(h.vars v hv).ck⟩
theorem Z4 {l:List Qe} {q:Qe} (h:q∈J0 l):q∈l/\q.delay≠0:=by
 unfold J0 at h;rw [List.mem_filter] at h;exact⟨h.1,by simpa using h.2⟩
theorem Ja4 (l:List Qe):(J0 l).length<=l.length:=List.length_filter_le _ _
theorem Joj (L:List Va):(X3 L).length=1+2 * L.length:=by
 unfold X3;rw [Nl]
 induction L with
 | nil=>simp
 | cons v L ih=>rw [List.flatMap_cons,Nk,Nl,Nl,Nl];simp only [Nm];omega
theorem Jj0 (m l:List (Int×ByteArray)):(Kaq m l).length<=l.length:=by
 unfold Kaq;rw [List.length_map];exact List.length_filter_le _ _
theorem Jxu {p:Pr} (h:Jay p) {c:Int×ByteArray} (hc:c∈X3 (Je p)):(c.1=0\/c.1=1\/c.1=2)/\c.2.size<=16:=by
 unfold X3 at hc
 rcases List.mem_cons.1 hc with rfl|hc
 ·exact⟨.inl rfl,by show 0<=16;omega⟩
 ·obtain⟨v,hv,h2⟩:=Jfn.1 hc
  rcases h2 with rfl|rfl
  ·exact⟨.inr (.inl rfl),(h.vars v hv).name⟩
  ·exact⟨.inr (.inr rfl),(h.vars v hv).name⟩
theorem Jay.cells {p:Pr} (h:Jay p) {c:Ce} (hc:c∈Jq p):(c.ck=0\/c.ck=1\/c.ck=2)/\c.cn.size<=16/\c.name.size<=16:=by
 unfold Jq at hc
 rcases List.mem_append.1 hc with hc|hc
 ·obtain⟨q,hq,rfl⟩:=List.mem_map.1 hc;have je:=(Z4 hq).1;have:=h.clock je;exact⟨this.2,this.1,(h.eqs q je).name⟩
 ·unfold Kaq at hc;obtain⟨d,hd,rfl⟩:=List.mem_map.1 hc;have:=Jxu h (List.mem_filter.1 hd).1;exact⟨this.1,this.2,by show 0<=16;omega⟩
theorem Jay.flags {p:Pr} (h:Jay p):Jha (Jq p):=Jo1 h.dist fun q hq=>(h.eqs q hq).ne
theorem Jay.codes {p:Pr} (h:Jay p) (q:Qe) (hq:q∈p.eqs) (sl:ByteArray->Int) (fl:Int×ByteArray->Int) (c:Int×ByteArray):(q.e.gen sl fl c).length<=360:=by
 have:=Ex.gen_len sl fl q.e c;have:=(h.eqs q hq).size;exact Ua
section
variable (sl:ByteArray->Int) (fl:Int×ByteArray->Int) (L:List Va)
theorem Jis (v:Va):∀(l:List Va) (i:Nat),Yh sl i (l ++ [v])=Yh sl i l ++ [(6,((i+l.length:Nat):Int)),(3,sl v.name)]
 | [],i=>by simp [Yh]
 | u :: l,i=>by rw [List.cons_append,Yh,Yh,Jis v l (i+1),Nl,List.append_assoc,show i+1+l.length=i+(l.length+1) from by omega]
theorem Jnd (q:Qe):∀(l:List Qe) (i:Nat),Zx sl i (l ++ [q])=Zx sl i l ++ [(4,((i+l.length:Nat):Int)),(3,sl q.name)]
 | [],i=>by simp [Zx]
 | u :: l,i=>by rw [List.cons_append,Zx,Zx,Jnd q l (i+1),Nl,List.append_assoc,show i+1+l.length=i+(l.length+1) from by omega]
theorem Jmv (q:Qe):∀(l:List Qe) (i:Nat),Zu sl fl L i (l ++ [q])=Zu sl fl L i l ++ Qk sl (J9 L q.name) (q.e.gen sl fl (J9 L q.name) ++ [(5,((i+l.length:Nat):Int))])
 | [],i=>by simp [Zu]
 | u :: l,i=>by rw [List.cons_append,Zu,Zu,Jmv q l (i+1),Nl,List.append_assoc,show i+1+l.length=i+(l.length+1) from by omega]
theorem Jnj (c:Ce):∀(l:List Ce) (i:Nat),Ze sl i (l ++ [c])=Ze sl i l ++ Qk sl (c.ck,c.cn) [(1,1),(5,((i+l.length:Nat):Int))]
 | [],i=>by simp [Ze]
 | u :: l,i=>by rw [List.cons_append,Ze,Ze,Jnj c l (i+1),Nl,List.append_assoc,show i+1+l.length=i+(l.length+1) from by omega]
theorem Jhy (v:Va):∀(l:List Va) (i:Nat),Xl sl i (l ++ [v])=Xl sl i l ++ [(2,sl v.name),(7,((i+l.length:Nat):Int))]
 | [],i=>by simp [Xl]
 | u :: l,i=>by rw [List.cons_append,Xl,Xl,Jhy v l (i+1),Nl,List.append_assoc,show i+1+l.length=i+(l.length+1) from by omega]
theorem Jif (eqs:List Qe) (j:Int):∀l:List Int,Xd sl fl L eqs (l ++ [j])=Xd sl fl L eqs l ++ Xd sl fl L eqs [j]
 | []=>by simp [Xd]
 | u :: l=>by
   rw [List.cons_append,Xd,Jif eqs j l];conv=>rhs;rw [Xd];rw [List.append_assoc]
theorem Jpr (eqs:List Qe) (k:Nat) (q:Qe) (h:eqs[k]?=some q):Xd sl fl L eqs [(k:Int)]=Qk sl (J9 L q.name) (q.e.gen sl fl (J9 L q.name) ++ [(3,sl q.name)]):=by
 rw [Xd,Xd,show((k:Int)).toNat=k from by omega,h,List.append_nil]
theorem Jb0 (c:Int×ByteArray) (x:List (Int×Int)):(Qk sl c x).length<=x.length+3:=by
 unfold Qk
 repeat' split
 all_goals simp
theorem Je4:∀(l:List Va) (i:Nat),(Yh sl i l).length=2 * l.length
 | [],i=>rfl
 | u :: l,i=>by rw [Yh,Nk,Je4 l (i+1),Nl];simp;omega
theorem Jkf:∀(l:List Qe) (i:Nat),(Zx sl i l).length=2 * l.length
 | [],i=>rfl
 | u :: l,i=>by rw [Zx,Nk,Jkf l (i+1),Nl];simp;omega
theorem Jhh:∀(l:List Va) (i:Nat),(Xl sl i l).length=2 * l.length
 | [],i=>rfl
 | u :: l,i=>by rw [Xl,Nk,Jhh l (i+1),Nl];simp;omega
theorem Jko:∀(l:List Qe) (i:Nat),(∀q∈l,∀c,(q.e.gen sl fl c).length<=360)->(Zu sl fl L i l).length<=364 * l.length
 | [],i,_=>by simp [Zu]
 | u :: l,i,h=>by
  have h1:=Jko l (i+1) fun q hq=>h q (by simp [hq]);have h2:=Jb0 sl (J9 L u.name) (u.e.gen sl fl (J9 L u.name) ++ [(5,(i:Int))]);have h3:=h u Uh (J9 L u.name);rw [Zu,Nk,Nl];simp only [Nk,Nl,Nm] at h2;exact Ua
theorem Jkc:∀(l:List Ce) (i:Nat),(Ze sl i l).length<=5 * l.length
 | [],i=>by simp [Ze]
 | u :: l,i=>by
  have h1:=Jkc l (i+1);have h2:=Jb0 sl (u.ck,u.cn) [(1,1),(5,(i:Int))];rw [Ze,Nk,Nl];simp only [Nl,Nm] at h2;exact Ua
theorem Jhf (eqs:List Qe) (h:∀q∈eqs,∀c,(q.e.gen sl fl c).length<=360):∀l:List Int,(Xd sl fl L eqs l).length<=364 * l.length
 | []=>by simp [Xd]
 | j :: l=>by
  have h1:=Jhf eqs h l;rw [Xd,Nk,Nl]
  cases hq:eqs[j.toNat]? with
  | none=>simp;omega
  | some q=>
   have h2:=Jb0 sl (J9 L q.name) (q.e.gen sl fl (J9 L q.name) ++ [(3,sl q.name)]);have h3:=h q (Ni hq) (J9 L q.name);simp only [Nk,Nl,Nm] at h2;simp only;omega
end
theorem Jo4 (l:List Qe) (q:Qe):J0 (l ++ [q])=J0 l ++ (if (q.delay != 0)=true then [q] else []):=by
 unfold J0;rw [List.filter_append]
 congr 1
 rw [List.filter_cons]
 split <;> simp_all
structure Im where
 ver:Int
 fro:Int
 eld:Int
 fr:Fr
 first:List Int
 step:List (Int×Int)
 move:List (Int×Int)
 sf:Int
 mf:Int
def Fr.zero:Fr:=⟨0,0,0,0,0⟩
def Im.zero:Im:=⟨0,0,0,Fr.zero,[],[],[],0,0⟩
def Jcj (c:List (Int×Int)) (f:Fr) (fuel:Int):Int:=if (Yi c f).2.1=0/\(Yi c f).1.2≠fuel then 14 else(Yi c f).2.1
def Im.moves (m:Im):Fr:=⟨0,m.eld,m.fr.n,0,0⟩
def Im.wrong (m:Im):Int:=
 if m.ver=0\/m.ver<=m.fro\/m.eld<0\/16<m.eld then 1
 else if m.fr.o≠m.fr.n\/(m.first.length:Int)≠m.fr.n then 1
 else if m.fro=0/\(0<m.eld\/0<m.move.length) then 1
 else if Jcj m.step m.fr m.sf≠0 then Jcj m.step m.fr m.sf
 else Jcj m.move m.moves m.mf
def Ju8 (m:Im):List Int:=
 [77,73,68,83] ++ leB 4 m.ver.toNat ++ leB 4 m.fro.toNat ++ leB 1 m.eld.toNat ++ leB 1 m.fr.s.toNat ++ leB 1 m.fr.n.toNat ++ leB 1 m.fr.i.toNat ++ leB 1 m.fr.u.toNat ++ leB 2 m.sf.toNat ++ leB 2 m.mf.toNat
def Jba (m:Im):List Int:=Ju8 m ++ Jcs (Je9 m.first) ++ Jcs (Ja7 m.step) ++ Jcs (Ja7 m.move)
def Jdl (m:Im):List Int×Int:=if m.wrong≠0 then([],m.wrong) else if 2016<(Jba m).length then([],3) else(Jba m,0)
theorem Juv {f:Fr} {n:Nat} : ∀(c:List (Int×Int)) (k:Nat) (ps:List Pl) (dep:Int),Jaa k n dep ps->(goJ f n k c ps dep).2.1=0->
  (∀i∈c,Qj i=0)/\0<=(goJ f n k c ps dep).1.1/\(goJ f n k c ps dep).1.1<=16/\0<=(goJ f n k c ps dep).1.2/\(goJ f n k c ps dep).1.2<=((k+c.length:Nat):Int)
 | [],k,ps,dep,h,h0=>by
  rw [goJ] at h0 ⊢;have hg:=h.get n;have hd:=h.dep0
  split at h0
  ·exact absurd (show(12:Int)=0 from h0) Ug
  ·rename_i hz;rw [if_neg hz];exact⟨Uh,hd.1,hd.2,hg.2.2.1,by simpa using hg.2.2.2.1⟩
 | i :: c,k,ps,dep,h,h0=>by
  rw [goJ] at h0 ⊢
  by_cases h1:(Jct f k i ps dep).1≠0
  ·rw [if_pos h1] at h0;exact absurd h0 h1
  ·rw [if_neg h1] at h0 ⊢;have h2:(Jct f k i ps dep).1=0:=Lk;obtain⟨g1,g2,g3,g4,g5⟩:=Juv c (k+1) _ _ (h.one h2) h0;refine⟨fun j hj=>?_,g2,g3,g4,by rw [Nl];omega⟩
   rcases List.mem_cons.1 hj with rfl|hj
   ·unfold Jct at h2
    split at h2
    ·exact h2
    ·rename_i hh;simpa using hh
   ·exact g1 j hj
theorem Jt5 {c:List (Int×Int)} {f:Fr} (h:(Yi c f).2.1=0):f.good=true/\c.length<=600/\(∀i∈c,Qj i=0)/\0<=(Yi c f).1.1/\(Yi c f).1.1<=16/\0<=(Yi c f).1.2/\(Yi c f).1.2<=(c.length:Int):=by
 unfold Yi at h ⊢
 by_cases h1:f.good=false
 ·rw [if_pos h1] at h;exact absurd h Ug
 ·rw [if_neg h1] at h ⊢
  by_cases h2:600<c.length
  ·rw [if_pos h2] at h;exact absurd h Ug
  ·rw [if_neg h2] at h ⊢;obtain⟨g1,g2⟩:=Juv c 0 _ _ (Jaa.start c.length) h;exact⟨Lk,Ua,g1,by simpa using g2⟩
theorem Fr.good_iff {f:Fr} : f.good=true<->(0<=f.s/\f.s<=24)/\(0<=f.o/\f.o<=16)/\(0<=f.n/\f.n<=16)/\(0<=f.i/\f.i<=8)/\(0<=f.u/\f.u<=8):=by
 unfold Fr.good inB;simp [and_assoc]
structure Im.Right (m:Im):Prop where
 ver:m.ver≠0/\m.fro<m.ver
 eld:0<=m.eld/\m.eld<=16
 fr:m.fr.good=true
 old:m.fr.o=m.fr.n/\(m.first.length:Int)=m.fr.n
 step:m.step.length<=600/\(∀i∈m.step,Qj i=0)/\0<=m.sf/\m.sf<=600
 move:m.move.length<=600/\(∀i∈m.move,Qj i=0)/\0<=m.mf/\m.mf<=600
theorem Jmp {c:List (Int×Int)} {f:Fr} {fuel:Int} (h:Jcj c f fuel=0):f.good=true/\c.length<=600/\(∀i∈c,Qj i=0)/\0<=fuel/\fuel<=600:=by
 unfold Jcj at h
 split at h
 ·exact absurd h Ug
 ·rename_i hn;obtain⟨g1,g2,g3,g4,g5,g6,g7⟩:=Jt5 h
  have:(Yi c f).1.2=fuel:=by
   by_cases he:(Yi c f).1.2=fuel
   ·exact he
   ·exact absurd ⟨h,he⟩ hn
  exact⟨g1,g2,g3,Ua,Ua⟩
theorem Im.right {m:Im} (h:m.wrong=0):m.Right:=by
 unfold Im.wrong at h
 split at h
 ·exact absurd h Ug
 split at h
 ·exact absurd h Ug
 split at h
 ·exact absurd h Ug
 split at h
 ·rename_i hn;exact absurd h hn
 ·rename_i h1 h2 h3 h4;obtain⟨a1,a2,a3,a4,a5⟩:=Jmp (by simpa using h4);obtain⟨b1,b2,b3,b4,b5⟩:=Jmp h;exact⟨Ua,Ua,a1,Ua,⟨a2,a3,a4,a5⟩,⟨b2,b3,b4,b5⟩⟩
def Jke (p:Pr):Fr:=⟨(Je p).length,(Jq p).length,(Jq p).length,p.ins.length,p.outs.length⟩
def Jd8 (p:Pr) (v:Int):Im:=⟨v,0,0,Jke p,(Jq p).map (·.first),Xs p,[],(Yi (Xs p) (Jke p)).1.2,0⟩
def imE (p:Pr) (v:Int):Im×(Int×Int×Int):=
 if (Xg p).2.2≠(0,0,0) then(Im.zero,(Xg p).2.2)
 else if v=0 then(Im.zero,(4,0,1))
 else if (Jdl (Jd8 p v)).2≠0 then(Im.zero,(4,0,(Jdl (Jd8 p v)).2))
 else(Jd8 p v,(0,0,0))
namespace Ex
end Ex
section
variable {f:Fr} {sl:ByteArray->Int} {fl:Int×ByteArray->Int}
end
theorem Jtl (L:List Va) (s:ByteArray) (h:0<L.length):0<=Xu L s/\Xu L s<(L.length:Int):=by
 unfold Xu
 cases hv:Qi L s with
 | none=>exact⟨Uh,Ui⟩
 | some j=>
  obtain⟨k,v,rfl,hk,_⟩:=Zi hv;have:=(Nh hk).1;simp only [Option.getD_some];omega
theorem Jf3 (d:Int×ByteArray):∀(l:List Ce) (i:Nat),Jav i l d=0\/((i:Int)<=Jav i l d/\Jav i l d<((i+l.length:Nat):Int))
 | [],i=> .inl rfl
 | x :: r,i=>by
  rw [Jav]
  split
  ·right;rw [Nl];omega
  ·rcases Jf3 d r (i+1) with h|h
   ·exact .inl h
   ·right;rw [Nl];omega
namespace Ex
end Ex
def Kt (c:List (Int×Int)):Prop:=∀i∈c,I32 i.2
theorem Kt.app {a b:List (Int×Int)} (ha:Kt a) (hb:Kt b):Kt (a ++ b):=fun i hi=>by
 rcases List.mem_append.1 hi with h|h
 ·exact ha i h
 ·exact hb i h
theorem Kt.nil:Kt []:=fun i hi=>by cases hi
theorem Kt.cons {op n:Int} {l:List (Int×Int)} (h:I32 n) (hl:Kt l):Kt ((op,n) :: l):=fun i hi=>by
 rcases List.mem_cons.1 hi with rfl|hi
 ·exact h
 ·exact hl i hi
theorem Jey {n:Nat} (h:n<=1000000):I32 (n:Int):=Vx
section
variable {sl:ByteArray->Int} {fl:Int×ByteArray->Int}
theorem Kt.choice {v a b:List (Int×Int)} (hv:Kt v) (ha:Kt a) (hb:Kt b) (la:a.length<=100000) (lb:b.length<=100000):Kt (Yv v a b):=by
 unfold Yv;exact(((hv.app (Kt.cons Vx Kt.nil)).app ha).app (Kt.cons Vx Kt.nil)).app hb
theorem Jyx (dF:∀s,I32 (sl s)) (gM:∀c,I32 (fl c)) (e:Ex):e.OK->e.size<=120->∀c,Kt (e.gen sl fl c):=by
 induction e using Ex.ind with
 | h e ih=>
  intro ho hz c;have hn:I32 e.n:=by cases e;simp only [Ex.OK] at ho;exact ho.2.1
  have hp:∀j,Kt ((Ex.genL sl fl e.kind e.name c 0 e.sub).getD j [])/\((Ex.genL sl fl e.kind e.name c 0 e.sub).getD j []).length<=100000:=by
   intro j
   by_cases hj:j<e.sub.length
   ·have hx:e.sub[j]?=some e.sub[j]:=Ng hj;have hm:e.sub[j]∈e.sub:=Nj hj;generalize e.sub[j]=x at hx hm;have h2:=Ex.size_sub hx;rw [Ex.genL_get sl fl e.kind e.name c e.sub 0 j x hx];have h4:=Ex.gen_len sl fl x (K4 e.kind e.name c (0+j));exact⟨ih x hm (Ex.OK_sub ho hm) Ua _,Ua⟩
   ·have:(Ex.genL sl fl e.kind e.name c 0 e.sub).getD j [] = []:=by
     rw [List.getD_eq_getElem?_getD,List.getElem?_eq_none (by rw [Ex.genL_len];omega)];rfl
    rw [this];exact⟨Kt.nil,Uh⟩
  rw [Ex.gen_eq];generalize Ex.genL sl fl e.kind e.name c 0 e.sub=ps at hp;unfold Jae;have one:∀(op n:Int),I32 n->Kt [(op,n)]:=fun op n h=>Kt.cons h Kt.nil
  split
  ·exact one _ _ (dF _)
  split
  ·exact(hp 0).1.app (one _ _ hn)
  split
  ·exact((hp 0).1.app (hp 1).1).app (one _ _ hn)
  split
  ·exact(hp 0).1.choice (hp 1).1 (hp 2).1 (hp 1).2 (hp 2).2
  split
  ·exact(one _ _ (gM c)).choice (hp 1).1 (hp 0).1 (hp 1).2 (hp 0).2
  split
  ·exact(hp 0).1
  split
  ·exact(one _ _ (dF _)).choice (hp 0).1 (hp 1).1 (hp 0).2 (hp 1).2
  ·exact one _ _ hn
theorem Kt.under (dF:∀s,I32 (sl s)) {c:Int×ByteArray} {x:List (Int×Int)} (hx:Kt x) (lx:x.length<=100000):Kt (Qk sl c x):=by
 unfold Qk;have hl:I32 (x.length:Int):=Jey Ua
 split
 ·exact(Kt.cons (dF _) (Kt.cons hl Kt.nil)).app hx
 ·split
  ·exact(Kt.cons (dF _) (Kt.cons Vx (Kt.cons hl Kt.nil))).app hx
  ·exact hx
theorem Jq8 (dF:∀s,I32 (sl s)):∀(l:List Va) (i:Nat),i+l.length<=100000->Kt (Yh sl i l)
 | [],i,_=>Kt.nil
 | v :: r,i,h=>by
  rw [Nl] at h;rw [Yh];exact(Kt.cons (Jey Ua) (Kt.cons (dF _) Kt.nil)).app (Jq8 dF r (i+1) Ua)
theorem Jro (dF:∀s,I32 (sl s)):∀(l:List Qe) (i:Nat),i+l.length<=100000->Kt (Zx sl i l)
 | [],i,_=>Kt.nil
 | v :: r,i,h=>by
  rw [Nl] at h;rw [Zx];exact(Kt.cons (Jey Ua) (Kt.cons (dF _) Kt.nil)).app (Jro dF r (i+1) Ua)
theorem Jri (dF:∀s,I32 (sl s)):∀(l:List Va) (i:Nat),i+l.length<=100000->Kt (Xl sl i l)
 | [],i,_=>Kt.nil
 | v :: r,i,h=>by
  rw [Nl] at h;rw [Xl];exact(Kt.cons (dF _) (Kt.cons (Jey Ua) Kt.nil)).app (Jri dF r (i+1) Ua)
theorem Jrj (dF:∀s,I32 (sl s)):∀(l:List Ce) (i:Nat),i+l.length<=100000->Kt (Ze sl i l)
 | [],i,_=>Kt.nil
 | v :: r,i,h=>by
  rw [Nl] at h;rw [Ze];exact(Kt.under dF (Kt.cons Vx (Kt.cons (Jey Ua) Kt.nil)) Uh).app (Jrj dF r (i+1) Ua)
theorem Jrf {L:List Va} (dF:∀s,I32 (sl s)):∀(l:List Qe) (i:Nat),(∀q∈l,∀c,Kt (q.e.gen sl fl c)/\(q.e.gen sl fl c).length<=360)->i+l.length<=100000->Kt (Zu sl fl L i l)
 | [],i,_,_=>Kt.nil
 | q :: r,i,hq,h=>by
  rw [Nl] at h;rw [Zu];obtain⟨g1,g2⟩:=hq q Uh (J9 L q.name);exact(Kt.under dF (g1.app (Kt.cons (Jey Ua) Kt.nil)) Ui).app (Jrf dF r (i+1) (fun x hx=>hq x L8) Ua)
theorem Jrd {L:List Va} {eqs:List Qe} (dF:∀s,I32 (sl s)) (hq:∀q∈eqs,∀c,Kt (q.e.gen sl fl c)/\(q.e.gen sl fl c).length<=360):∀l:List Int,Kt (Xd sl fl L eqs l)
 | []=>Kt.nil
 | j :: r=>by
  rw [Xd];refine Kt.app ?_ (Jrd dF hq r)
  cases hx:eqs[j.toNat]? with
  | none=>exact Kt.nil
  | some q=>
   obtain⟨g1,g2⟩:=hq q (Ni hx) (J9 L q.name);exact Kt.under dF (g1.app (Kt.cons (dF _) Kt.nil)) Ui
end
theorem Jwf (L:List Va) (hl:L.length<=100000) (s:ByteArray):I32 (Xu L s):=by
 rcases Nat.eq_zero_or_pos L.length with h|h
 ·have:L = []:=List.eq_nil_of_length_eq_zero h;subst this;have:Xu [] s=0:=rfl;rw [this];unfold I32;omega
 ·have:=Jtl L s h;exact Vx
theorem Jwd (l:List Ce) (hl:l.length<=100000) (d:Int×ByteArray):I32 (Kg l d):=by
 rcases Jf3 d l 0 with h|h
 ·unfold Kg;rw [h];unfold I32;omega
 ·unfold Kg I32;omega
theorem Jvr {p:Pr} (h:Jay p) (aw:Ke5 p) (hb:¬16<(Jq p).length):∀i∈Xs p,I32 i.2:=by
 have jN:=h.small;have dF:=Jwf (Je p) Ua;have gM:=Jwd (Jq p) Ua
 have hq:∀q∈p.eqs,∀c,Kt (q.e.gen (Xu (Je p)) (Kg (Jq p)) c)/\(q.e.gen (Xu (Je p)) (Kg (Jq p)) c).length<=360:=fun q hq c=>
  ⟨Jyx dF gM q.e (aw.eqs q hq).2.2.2 (h.eqs q hq).size c,h.codes q hq _ _ _⟩
 have ek:=Ja4 p.eqs;unfold Xs;exact(((((Jq8 dF p.ins 0 Ua).app (Jro dF (J0 p.eqs) 0 Ua)).app (Jrd dF hq (Kot p).1)).app (Jrf dF (J0 p.eqs) 0 (fun q hd=>hq q (Z4 hd).1) Ua)).app (Jrj dF _ _ (by rw [List.length_drop];omega))).app (Jri dF p.outs 0 Ua)
theorem Jy1 {e:Ex} (h:e.OK):I32 (Jai e):=by
 unfold Jai
 split
 ·exact Jvc _
 ·cases e;simp only [Ex.OK] at h;exact h.2.1
theorem Jt7 {p:Pr} (aw:Ke5 p):∀x∈(Jq p).map (·.first),I32 x:=by
 intro x hx;obtain⟨c,hc,rfl⟩:=List.mem_map.1 hx;unfold Jq at hc
 rcases List.mem_append.1 hc with hc|hc
 ·obtain⟨q,hq,rfl⟩:=List.mem_map.1 hc;exact Jy1 (aw.eqs q (Z4 hq).1).2.2.1
 ·unfold Kaq at hc;obtain⟨d,_,rfl⟩:=List.mem_map.1 hc;show I32 0;unfold I32;omega
end Go.Proofs.YtdgjplldlfeolaaGreatDoor
