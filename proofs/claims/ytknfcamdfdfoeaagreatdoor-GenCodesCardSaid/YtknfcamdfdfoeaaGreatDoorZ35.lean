/- Lemmas. -/
import Derived.Test.YtknfcamdfdfoeaaGreatDoorMac
import Derived.Test.YtknfcamdfdfoeaaGreatDoorZ34
import Derived.Test.YtknfcamdfdfoeaaGreatDoorZ01
set_option linter.unusedVariables false
set_option linter.unusedSimpArgs false
set_option maxRecDepth 100000
set_option maxHeartbeats 64000000
namespace Go.Proofs.YtknfcamdfdfoeaaGreatDoor
open Go.RowKit Go.Sort Go.Maps
theorem Jb1.drew {W:World} {X Bs Bf:Nat} {sl:ByteArray->Int} {fl:Int×ByteArray->Int} (h:Jb1 W X Bs Bf sl fl):Jb1 W.drew X Bs Bf sl fl:=h.later (Jh (Below.refl _ _))
theorem Jcw {X Bs Bf:Nat} {sl:ByteArray->Int} {fl:Int×ByteArray->Int} {e x:Ex} {i:Nat} (hx:e.sub[i]?=some x) (ih:∀x∈e.sub,Jag X Bs Bf sl fl x) {bp be bc:Nat} {A:Option Addr} {cap:Nat} {ck:Int} {cs:ByteArray} {w0:World}
  (hh:Jge w0 bp be bc X A e.sub.length cap ck cs) (hp:Jb1 w0 X Bs Bf sl fl) (he:Jt w0 e A cap) (hc:okC (ck,cs)):Hid (∀w,Below w0.heap.size w0 w->
  Calls Tryz.prog 43 #[.int .i64 i,.pointer (some ⟨bp,0,none⟩),.pointer (some ⟨be,0,none⟩),.pointer (some ⟨bc,0,none⟩)] w (Jci w (x.gen sl fl (ck,cs)))):=
 Lib.hid fun w hb=>Jwz X Bs Bf sl fl e x i hx (ih x (List.mem_of_getElem? hx)) bp be bc A cap ck cs w (hh.later hb) (hp.later hb) (he.later hb) hc
section
variable (X Bs Bf:Nat) (sl:ByteArray->Int) (fl:Int×ByteArray->Int) (e:Ex)
theorem Jz9 (hk:e.kind=3) (aw:okS e.name):Jag X Bs Bf sl fl e:=by
 intro A cap ck cs w hp he hc;obtain⟨bI,aD⟩:=he.len;unfold maxLen at aD;have hv:e.gen sl fl (ck,cs) = [(2,sl e.name)]:=by rw [Ex.gen_eq];unfold Jae;simp [hk]
 rw [hv];have t3:(e.kind == 3)=true:=Vw;have HP:=Lib.hid hp;unfold exV;clear hk hv hp he hc;have gZ:∀(fn:Fn) (first cap:Array Value) (w:World),(Instr.makeFunc fn first cap).run Tryz.prog w = .ok (.func fn first cap) w:=fun _ _ _ _=>rfl
 go_enter Tryz.func23,Tryz.ntmps23
 go_wp2_with fail
 refine Jo fun W0 ag=>?_;have ax:Below w.heap.size w W0:=Uo;have bD:W0.heap.size=w.heap.size+3:=La;have p0:W0.cell? ⟨w.heap.size,0,none⟩=some (.pointer (some ⟨X,0,none⟩)):=Uc;have e0:W0.cell? ⟨w.heap.size+1,0,none⟩=some (.int .i64 e.kind):=Uc;have e1:W0.cell? ⟨w.heap.size+1,1,none⟩=some (.int .i32 e.n):=Uc;have e2:W0.cell? ⟨w.heap.size+1,2,none⟩=some (.string e.name):=Uc;have e3:W0.cell? ⟨w.heap.size+1,3,none⟩=some (.slice A e.sub.length cap):=Uc;have k0:W0.cell? ⟨w.heap.size+2,0,none⟩=some (.int .i64 ck):=Uc;have k1:W0.cell? ⟨w.heap.size+2,1,none⟩=some (.string cs):=Uc;have jl:w.heap.size<W0.heap.size:=Ua;have bV:w.heap.size+1<W0.heap.size:=Ua;have gq:w.heap.size+2<W0.heap.size:=Ua;have hz:w.heap.size<=W0.heap.size:=Ua;clear ag gZ bD;have pp:=HP.out.later ax;obtain⟨c0,c2,⟨n,f,c,hm,hf⟩,_⟩:=pp;have hX:X<W0.heap.size:=block_lt_of_cell c0;have hlk:=Jcb (w:=W0.drew) (Jc2 Tryz.underlying9) (x:= .string e.name) Tryz.underlying68 Tryz.underlying21 (Jbp _) rfl hm.drew aw (hf _ aw);clear hm hf
 go_region_law (go_simp;go_wp2_with (go_at_call_of 21 (Value.int IntKind.i64 2);go_loud (refine(Jak _ _ _).mono ?_;rintro r w1 ⟨⟨rfl,ba⟩,ac⟩;have dN:=J3.one ba;have af:=ac.size;clear ba)))
 all_goals
  go_wp2_with fail
  go_ret;exact⟨⟨_,_,rfl,by simpa using dN⟩,ax.trans (Below.mono ((Jh (Below.refl _ _)).trans (ac.mono Ul)) Ua)⟩
theorem Jz6 (hk:e.kind=4) (hs:0<e.sub.length) (cE:e.size<=200000) (ih:∀x∈e.sub,Jag X Bs Bf sl fl x):Jag X Bs Bf sl fl e:=by
 intro A cap ck cs w hp he hc;obtain⟨bI,aD⟩:=he.len;unfold maxLen at aD;have hx:e.sub[0]?=some e.sub[0]:=List.getElem?_eq_getElem hs;generalize e.sub[0]=x at hx;have hw:K4 e.kind e.name (ck,cs) 0=(ck,cs):=by unfold K4;simp [hk]
 have hv:e.gen sl fl (ck,cs)=x.gen sl fl (ck,cs) ++ [(8,e.n)]:=by
  rw [Ex.gen_eq,Jae,if_neg Ua,if_pos hk,Ex.genL_get sl fl e.kind e.name (ck,cs) e.sub 0 0 x hx,hw]
 have eS:=Ex.gen_len sl fl e (ck,cs);rw [hv] at eS ⊢;have t3:(e.kind == 3)=false:=L6;have t4:(e.kind == 4)=true:=Vw;have HP:=Lib.hid hp;have HE:=Lib.hid he;have HX:=Lib.hid hx;have HC:=Lib.hid hc;unfold exV;have HG:=Lib.hid eS;clear hk hv hp he hc hw hx eS;have gZ:∀(fn:Fn) (first cap:Array Value) (w:World),(Instr.makeFunc fn first cap).run Tryz.prog w = .ok (.func fn first cap) w:=fun _ _ _ _=>rfl
 go_enter Tryz.func23,Tryz.ntmps23
 go_wp2_with fail
 refine Jo fun W0 ag=>?_;have ax:Below w.heap.size w W0:=Uo;have bD:W0.heap.size=w.heap.size+3:=La;have p0:W0.cell? ⟨w.heap.size,0,none⟩=some (.pointer (some ⟨X,0,none⟩)):=Uc;have e0:W0.cell? ⟨w.heap.size+1,0,none⟩=some (.int .i64 e.kind):=Uc;have e1:W0.cell? ⟨w.heap.size+1,1,none⟩=some (.int .i32 e.n):=Uc;have e2:W0.cell? ⟨w.heap.size+1,2,none⟩=some (.string e.name):=Uc;have e3:W0.cell? ⟨w.heap.size+1,3,none⟩=some (.slice A e.sub.length cap):=Uc;have k0:W0.cell? ⟨w.heap.size+2,0,none⟩=some (.int .i64 ck):=Uc;have k1:W0.cell? ⟨w.heap.size+2,1,none⟩=some (.string cs):=Uc;have jl:w.heap.size<W0.heap.size:=Ua;have bV:w.heap.size+1<W0.heap.size:=Ua;have gq:w.heap.size+2<W0.heap.size:=Ua;have hz:w.heap.size<=W0.heap.size:=Ua;clear ag gZ bD;have pp:=Jcw HX.out ih ⟨p0,e3,k0,k1⟩ (HP.out.later ax) (HE.out.later ax) HC.out
 have ay:=Lib.hid (fun(g:List (Int×Int)) (hg:g.length<=700000) (A1:Option Addr) (c1 g2:Nat) (W:World) (dN:J3 W g A1 c1) (dR:J3 W [(8,e.n)] (some ⟨g2,0,none⟩) 1) (t:TypeId)=>
  Jc0 [⟨g,A1,c1⟩,⟨[(8,e.n)],some ⟨g2,0,none⟩,1⟩] (some ⟨W.heap.size,0,none⟩) 2
   (W.alloc (.cells #[.slice A1 g.length c1,.slice (some ⟨g2,0,none⟩) 1 1] t))
   (Jan rfl fun x hx=>by
    simp only [List.mem_cons,List.not_mem_nil,or_false] at hx
    rcases hx with rfl|rfl
    ·exact dN
    ·exact dR)
   Gj Ul)
 have gK:(x.gen sl fl (ck,cs)).length<=700000:=by have:=HG.out;rw [List.length_append] at this;omega
 have gM:∀(A1:Option Addr) (c1 g2:Nat),Qu [⟨x.gen sl fl (ck,cs),A1,c1⟩,⟨[(8,e.n)],some ⟨g2,0,none⟩,1⟩]=x.gen sl fl (ck,cs) ++ [(8,e.n)]:=fun _ _ _=>by simp [Qu]
 have wL:=Lib.hid gM;clear gM;generalize x.gen sl fl (ck,cs)=g at *
 go_region_law (go_simp;go_wp2_with (first
  | (go_at_call_of 43 (Value.int IntKind.i64 0);go_loud (refine(pp.out _ Jb).mono ?_;rintro r w1 ⟨⟨A1,c1,rfl,dN⟩,ac⟩;have d1:=Ja ac (Zw e1);have af:=ac.size))
  | (go_at_call_of 21 (Value.int IntKind.i64 8);go_loud (refine(Jak _ _ _).mono ?_;rintro r w2 ⟨⟨rfl,ao⟩,aq⟩;have dR:=J3.one ao;have br:=aq.size;have d2:=Ja aq d1;clear ao))
  | (go_at_call 20;go_loud (refine(ay.out g gK _ _ _ w2 (dN.later aq) dR _).mono ?_;rw [wL.out];intro r w4 aZ;obtain⟨⟨A4,c4,rfl,gP⟩,ei⟩:=aZ.at.less (Jc (ax.trans (Below.mono (Below.trans (Jh (Below.refl _ _)) (Below.trans (ac.mono Ul) (aq.mono af))) (by first|omega|simpa using hz))) _);clear aZ))))
 all_goals
  go_wp2_with fail
  go_ret;exact⟨⟨A4,c4,by rw [List.length_append];rfl,gP⟩,ei⟩
end
section
variable (X Bs Bf:Nat) (sl:ByteArray->Int) (fl:Int×ByteArray->Int) (e:Ex)
theorem Jzz (hk:e.kind=5) (hs:1<e.sub.length) (cE:e.size<=200000) (ih:∀x∈e.sub,Jag X Bs Bf sl fl x):Jag X Bs Bf sl fl e:=by
 intro A cap ck cs w hp he hc;obtain⟨bI,aD⟩:=he.len;unfold maxLen at aD;have hx:e.sub[0]?=some (e.sub[0]' Ua):=List.getElem?_eq_getElem _;have hy:e.sub[1]?=some e.sub[1]:=List.getElem?_eq_getElem hs;generalize e.sub[0]' Ua=x at hx;generalize e.sub[1]=y at hy;have hw:∀i,K4 e.kind e.name (ck,cs) i=(ck,cs):=Sj
 have hv:e.gen sl fl (ck,cs)=x.gen sl fl (ck,cs) ++ y.gen sl fl (ck,cs) ++ [(9,e.n)]:=by
  rw [Ex.gen_eq,Jae,if_neg Ua,if_neg Ua,if_pos hk,Ex.genL_get sl fl e.kind e.name (ck,cs) e.sub 0 0 x hx,Ex.genL_get sl fl e.kind e.name (ck,cs) e.sub 0 1 y hy,hw,hw]
 have eS:=Ex.gen_len sl fl e (ck,cs);rw [hv] at eS ⊢;have t3:(e.kind == 3)=false:=L6;have t4:(e.kind == 4)=false:=L6;have t5:(e.kind == 5)=true:=Vw;have HP:=Lib.hid hp;have HE:=Lib.hid he;have HX:=Lib.hid hx;have HY:=Lib.hid hy;have HC:=Lib.hid hc;unfold exV;have HG:=Lib.hid eS;clear hk hv hp he hc hw hx hy eS;have gZ:∀(fn:Fn) (first cap:Array Value) (w:World),(Instr.makeFunc fn first cap).run Tryz.prog w = .ok (.func fn first cap) w:=fun _ _ _ _=>rfl
 go_enter Tryz.func23,Tryz.ntmps23
 go_wp2_with fail
 refine Jo fun W0 ag=>?_;have ax:Below w.heap.size w W0:=Uo;have bD:W0.heap.size=w.heap.size+3:=La;have p0:W0.cell? ⟨w.heap.size,0,none⟩=some (.pointer (some ⟨X,0,none⟩)):=Uc;have e0:W0.cell? ⟨w.heap.size+1,0,none⟩=some (.int .i64 e.kind):=Uc;have e1:W0.cell? ⟨w.heap.size+1,1,none⟩=some (.int .i32 e.n):=Uc;have e2:W0.cell? ⟨w.heap.size+1,2,none⟩=some (.string e.name):=Uc;have e3:W0.cell? ⟨w.heap.size+1,3,none⟩=some (.slice A e.sub.length cap):=Uc;have k0:W0.cell? ⟨w.heap.size+2,0,none⟩=some (.int .i64 ck):=Uc;have k1:W0.cell? ⟨w.heap.size+2,1,none⟩=some (.string cs):=Uc;have jl:w.heap.size<W0.heap.size:=Ua;have bV:w.heap.size+1<W0.heap.size:=Ua;have gq:w.heap.size+2<W0.heap.size:=Ua;have hz:w.heap.size<=W0.heap.size:=Ua;clear ag gZ bD;have pp:=Jcw HX.out ih ⟨p0,e3,k0,k1⟩ (HP.out.later ax) (HE.out.later ax) HC.out;have ii:=Jcw HY.out ih ⟨p0,e3,k0,k1⟩ (HP.out.later ax) (HE.out.later ax) HC.out;have gK:(x.gen sl fl (ck,cs)).length+(y.gen sl fl (ck,cs)).length<=700000:=by have:=HG.out;rw [List.length_append,List.length_append] at this;omega
 generalize x.gen sl fl (ck,cs)=g at *;generalize y.gen sl fl (ck,cs)=h at *
 have ay:=Lib.hid (fun(A1:Option Addr) (c1:Nat) (A2:Option Addr) (c2 g2:Nat) (W:World) (dN:J3 W g A1 c1) (dR:J3 W h A2 c2) (iI:J3 W [(9,e.n)] (some ⟨g2,0,none⟩) 1) (t:TypeId)=>
  Jc0 [⟨g,A1,c1⟩,⟨h,A2,c2⟩,⟨[(9,e.n)],some ⟨g2,0,none⟩,1⟩] (some ⟨W.heap.size,0,none⟩) 3
   (W.alloc (.cells #[.slice A1 g.length c1,.slice A2 h.length c2,.slice (some ⟨g2,0,none⟩) 1 1] t))
   (Jan rfl fun x hx=>by
    simp only [List.mem_cons,List.not_mem_nil,or_false] at hx
    rcases hx with rfl|rfl|rfl
    ·exact dN
    ·exact dR
    ·exact iI)
   Gj Ul)
 have gM:∀(A1:Option Addr) (c1:Nat) (A2:Option Addr) (c2 g2:Nat),Qu [⟨g,A1,c1⟩,⟨h,A2,c2⟩,⟨[(9,e.n)],some ⟨g2,0,none⟩,1⟩]=g ++ h ++ [(9,e.n)]:=fun _ _ _ _ _=>by simp [Qu]
 have wL:=Lib.hid gM;clear gM
 go_region_law (go_simp;go_wp2_with (first
  | (go_at_call_of 43 (Value.int IntKind.i64 0);go_loud (refine(pp.out _ Jb).mono ?_;rintro r w1 ⟨⟨A1,c1,rfl,dN⟩,ac⟩;have d1:=Ja ac (Zw e1);have af:=ac.size;have cT:Below W0.heap.size W0 w1:=(Jh (Below.refl _ _)).trans (ac.mono Ul)))
  | (go_at_call_of 43 (Value.int IntKind.i64 1);go_loud (refine(ii.out _ cT).mono ?_;rintro r w2 ⟨⟨A2,c2,rfl,dR⟩,aq⟩;have d2:=Ja aq d1;have br:=aq.size;have cF:=cT.trans (aq.mono cT.size)))
  | (go_at_call_of 21 (Value.int IntKind.i64 9);go_loud (refine(Jak _ _ _).mono ?_;rintro r w3 ⟨⟨rfl,aE⟩,aM⟩;have iI:=J3.one aE;have fe:=aM.size;have d3:=Ja aM d2;have cZ:=cF.trans (aM.mono cF.size);clear aE))
  | (go_at_call 20;go_loud (refine(ay.out _ _ _ _ _ w3 ((dN.later aq).later aM) (dR.later aM) iI _).mono ?_;rw [wL.out];intro r w4 aZ;obtain⟨⟨A4,c4,rfl,gP⟩,ei⟩:=aZ.at.less (Jc (ax.trans (cZ.mono ax.size)) _);clear aZ))))
 all_goals
  go_wp2_with fail
  go_ret;exact⟨⟨A4,c4,by rw [List.length_append,List.length_append];rfl,gP⟩,ei⟩
theorem Jz0 (hk:e.kind≠3/\e.kind≠4/\e.kind≠5/\e.kind≠6/\e.kind≠7/\e.kind≠8/\e.kind≠9/\e.kind≠10):Jag X Bs Bf sl fl e:=by
 intro A cap ck cs w hp he hc;obtain⟨bI,aD⟩:=he.len;unfold maxLen at aD;obtain⟨h3,h4,h5,h6,h7,h8,h9,bM⟩:=hk;have hv:e.gen sl fl (ck,cs) = [(1,e.n)]:=by rw [Ex.gen_eq];unfold Jae;simp [*]
 rw [hv];have t3:(e.kind == 3)=false:=Sz;have t4:(e.kind == 4)=false:=by simpa using h4
 have t5:(e.kind == 5)=false:=by simpa using h5
 have t6:(e.kind == 6)=false:=by simpa using h6
 have t7:(e.kind == 7)=false:=S9;have t8:(e.kind == 8)=false:=Dp;have t9:(e.kind == 9)=false:=by simpa using h9
 have t10:(e.kind == 10)=false:=Fb;unfold exV;clear h3 h4 h5 h6 h7 h8 h9 bM hv hp he hc;have gZ:∀(fn:Fn) (first cap:Array Value) (w:World),(Instr.makeFunc fn first cap).run Tryz.prog w = .ok (.func fn first cap) w:=fun _ _ _ _=>rfl
 go_enter Tryz.func23,Tryz.ntmps23
 go_wp2_with (go_at_call_of 21 (Value.int IntKind.i64 1);go_loud (refine(Jak _ _ _).mono ?_;rintro r w1 ⟨⟨rfl,ba⟩,ac⟩;have dN:=J3.one ba;have af:=ac.size;clear ba))
 go_ret;exact⟨⟨_,_,rfl,by simpa using dN⟩,Jb⟩
end
theorem Jkh (w:World) (X:Nat) (v0 v1 v2:Value) (A:Option Addr) (len cap:Nat) (ck:Int) (cs:ByteArray) (t1 t2 t3:TypeId):Jge (((w.alloc (.cells #[.pointer (some ⟨X,0,none⟩)] t1)).alloc (.cells #[v0,v1,v2,.slice A len cap] t2)).alloc (.cells #[.int .i64 ck,.string cs] t3)) w.heap.size (w.heap.size+1) (w.heap.size+1+1) X A len cap ck cs:=
 ⟨Uq,Uq,Uq,Uq⟩
section
variable (X Bs Bf:Nat) (sl:ByteArray->Int) (fl:Int×ByteArray->Int) (e:Ex)
theorem Kae (hk:e.kind=6) (hs:2<e.sub.length) (cE:e.size<=200000) (ih:∀x∈e.sub,Jag X Bs Bf sl fl x):Jag X Bs Bf sl fl e:=by
 intro A cap ck cs w hp he hc;obtain⟨bI,aD⟩:=he.len;unfold maxLen at aD;have hx:e.sub[0]?=some (e.sub[0]' Ua):=List.getElem?_eq_getElem _;have hy:e.sub[1]?=some (e.sub[1]' Ua):=List.getElem?_eq_getElem _;have hz:e.sub[2]?=some e.sub[2]:=List.getElem?_eq_getElem hs;generalize e.sub[0]' Ua=x at hx;generalize e.sub[1]' Ua=y at hy;generalize e.sub[2]=z at hz;have hw:∀i,K4 e.kind e.name (ck,cs) i=(ck,cs):=Sj
 have hv:e.gen sl fl (ck,cs)=Yv (x.gen sl fl (ck,cs)) (y.gen sl fl (ck,cs)) (z.gen sl fl (ck,cs)):=by
  rw [Ex.gen_eq,Jae,if_neg Ua,if_neg Ua,if_neg Ua,if_pos hk,Ex.genL_get sl fl e.kind e.name (ck,cs) e.sub 0 0 x hx,Ex.genL_get sl fl e.kind e.name (ck,cs) e.sub 0 1 y hy,Ex.genL_get sl fl e.kind e.name (ck,cs) e.sub 0 2 z hz,hw,hw,hw]
 have eS:=Ex.gen_len sl fl e (ck,cs);rw [hv] at eS ⊢;rw [Ex.choice_len] at eS;have t3:(e.kind == 3)=false:=L6;have t4:(e.kind == 4)=false:=L6;have t5:(e.kind == 5)=false:=L6;have t6:(e.kind == 6)=true:=Vw;have sG:∀(o1 o2 o3:Obj),Below w.heap.size w (((w.alloc o1).alloc o2).alloc o3):=fun _ _ _=>Jc (Jc (Jc (Below.refl _ _) _) _) _;have pp:=Jcw hx ih (Jkh w X (.int .i64 e.kind) (.int .i32 e.n) (.string e.name) A e.sub.length cap ck cs 64 51 55) (hp.later (sG _ _ _)) (he.later (sG _ _ _)) hc;have ii:=Jcw hy ih (Jkh w X (.int .i64 e.kind) (.int .i32 e.n) (.string e.name) A e.sub.length cap ck cs 64 51 55) (hp.later (sG _ _ _)) (he.later (sG _ _ _)) hc;have gL:=Jcw hz ih (Jkh w X (.int .i64 e.kind) (.int .i32 e.n) (.string e.name) A e.sub.length cap ck cs 64 51 55) (hp.later (sG _ _ _)) (he.later (sG _ _ _)) hc;unfold exV;clear hk hv hp he hc hw hx hy hz;have gZ:∀(fn:Fn) (first cap:Array Value) (w:World),(Instr.makeFunc fn first cap).run Tryz.prog w = .ok (.func fn first cap) w:=fun _ _ _ _=>rfl;have gK:(x.gen sl fl (ck,cs)).length+(y.gen sl fl (ck,cs)).length+(z.gen sl fl (ck,cs)).length<=700000:=Ua;clear eS;generalize x.gen sl fl (ck,cs)=g at *;generalize y.gen sl fl (ck,cs)=h at *;generalize z.gen sl fl (ck,cs)=k at *
 go_enter Tryz.func23,Tryz.ntmps23
 go_wp2_with (first
  | (go_at_call_of 43 (Value.int IntKind.i64 0);go_loud (refine(pp.out _ (Below.refl _ _)).mono ?_;rintro r w1 ⟨⟨A1,c1,rfl,dN⟩,ac⟩;have af:=ac.size))
  | (go_at_call_of 43 (Value.int IntKind.i64 1);go_loud (refine(ii.out _ ac).mono ?_;rintro r w2 ⟨⟨A2,c2,rfl,dR⟩,aq⟩;have br:=aq.size;have cF:=ac.trans (aq.mono af)))
  | (go_at_call_of 43 (Value.int IntKind.i64 2);go_loud (refine(gL.out _ cF).mono ?_;rintro r w3 ⟨⟨A3,c3,rfl,iI⟩,aM⟩;have fe:=aM.size;have cZ:=(sG _ _ _).trans (Below.mono (cF.trans (aM.mono cF.size)) (sG _ _ _).size)))
  | (go_at_call 44;go_loud (refine(Jg5 g h k _ _ _ _ _ _ w3 ((dN.later aq).later aM) (dR.later aM) iI Ua).mono ?_;intro r w4 aZ;obtain⟨⟨A4,c4,rfl,gP⟩,ei⟩:=aZ.at.less cZ;clear aZ)))
 go_ret;exact⟨⟨A4,c4,rfl,gP⟩,ei⟩
theorem Jz5 (hk:e.kind=7) (hs:1<e.sub.length) (cE:e.size<=200000) (ih:∀x∈e.sub,Jag X Bs Bf sl fl x):Jag X Bs Bf sl fl e:=by
 intro A cap ck cs w hp he hc;obtain⟨bI,aD⟩:=he.len;unfold maxLen at aD;have hx:e.sub[0]?=some (e.sub[0]' Ua):=List.getElem?_eq_getElem _;have hy:e.sub[1]?=some e.sub[1]:=List.getElem?_eq_getElem hs;generalize e.sub[0]' Ua=x at hx;generalize e.sub[1]=y at hy;have hw:∀i,K4 e.kind e.name (ck,cs) i=(ck,cs):=Sj
 have hv:e.gen sl fl (ck,cs)=Yv [(4,fl (ck,cs))] (y.gen sl fl (ck,cs)) (x.gen sl fl (ck,cs)):=by
  rw [Ex.gen_eq,Jae,if_neg Ua,if_neg Ua,if_neg Ua,if_neg Ua,if_pos hk,Ex.genL_get sl fl e.kind e.name (ck,cs) e.sub 0 0 x hx,Ex.genL_get sl fl e.kind e.name (ck,cs) e.sub 0 1 y hy,hw,hw]
 have eS:=Ex.gen_len sl fl e (ck,cs);rw [hv] at eS ⊢;rw [Ex.choice_len] at eS;have t3:(e.kind == 3)=false:=L6;have t4:(e.kind == 4)=false:=L6;have t5:(e.kind == 5)=false:=L6;have t6:(e.kind == 6)=false:=L6;have t7:(e.kind == 7)=true:=Vw;have HP:=Lib.hid hp;have HE:=Lib.hid he;have HX:=Lib.hid hx;have HY:=Lib.hid hy;have HC:=Lib.hid hc;unfold exV;have HG:=Lib.hid eS;clear hk hv hp he hc hw hx hy eS;have gZ:∀(fn:Fn) (first cap:Array Value) (w:World),(Instr.makeFunc fn first cap).run Tryz.prog w = .ok (.func fn first cap) w:=fun _ _ _ _=>rfl
 go_enter Tryz.func23,Tryz.ntmps23
 go_wp2_with fail
 refine Jo fun W0 ag=>?_;have ax:Below w.heap.size w W0:=Uo;have bD:W0.heap.size=w.heap.size+3:=La;have p0:W0.cell? ⟨w.heap.size,0,none⟩=some (.pointer (some ⟨X,0,none⟩)):=Uc;have e0:W0.cell? ⟨w.heap.size+1,0,none⟩=some (.int .i64 e.kind):=Uc;have e1:W0.cell? ⟨w.heap.size+1,1,none⟩=some (.int .i32 e.n):=Uc;have e2:W0.cell? ⟨w.heap.size+1,2,none⟩=some (.string e.name):=Uc;have e3:W0.cell? ⟨w.heap.size+1,3,none⟩=some (.slice A e.sub.length cap):=Uc;have k0:W0.cell? ⟨w.heap.size+2,0,none⟩=some (.int .i64 ck):=Uc;have k1:W0.cell? ⟨w.heap.size+2,1,none⟩=some (.string cs):=Uc;have jl:w.heap.size<W0.heap.size:=Ua;have bV:w.heap.size+1<W0.heap.size:=Ua;have gq:w.heap.size+2<W0.heap.size:=Ua;have hz:w.heap.size<=W0.heap.size:=Ua;clear ag gZ bD;have pp:=Jcw HX.out ih ⟨p0,e3,k0,k1⟩ (HP.out.later ax) (HE.out.later ax) HC.out;have ii:=Jcw HY.out ih ⟨p0,e3,k0,k1⟩ (HP.out.later ax) (HE.out.later ax) HC.out;have gK:(x.gen sl fl (ck,cs)).length+(y.gen sl fl (ck,cs)).length<=700000:=by have:=HG.out;omega
 generalize x.gen sl fl (ck,cs)=g at *;generalize y.gen sl fl (ck,cs)=h at *;have dS:=HP.out.later ax;obtain⟨c0,c2,_,⟨n,f,c,hm,hf⟩⟩:=dS;have hX:X<W0.heap.size:=block_lt_of_cell c0;have hlk:=Jcb (w:=W0.drew) (Jl0) (x:= .agg #[.int .i64 ck,.string cs]) Tryz.underlying70 Tryz.underlying21 (Jbp _) rfl hm.drew HC.out (hf _ HC.out);clear hm hf
 go_region_law (go_simp;go_wp2_with (first
  | (go_at_call_of 21 (Value.int IntKind.i64 4);go_loud (refine(Jak _ _ _).mono ?_;rintro r w1 ⟨⟨rfl,ba⟩,ac⟩;have dN:=J3.one ba;have af:=ac.size;have cT:Below W0.heap.size W0 w1:=(Jh (Below.refl _ _)).trans (ac.mono Ul);clear ba))
  | (go_at_call_of 43 (Value.int IntKind.i64 1);go_loud (refine(ii.out _ cT).mono ?_;rintro r w2 ⟨⟨A2,c2',rfl,dR⟩,aq⟩;have br:=aq.size;have cF:=cT.trans (aq.mono cT.size)))
  | (go_at_call_of 43 (Value.int IntKind.i64 0);go_loud (refine(pp.out _ cF).mono ?_;rintro r w3 ⟨⟨A3,c3',rfl,iI⟩,aM⟩;have fe:=aM.size;have cZ:=cF.trans (aM.mono cF.size)))
  | (go_at_call 44;go_loud (refine(Jg5 [(4,fl (ck,cs))] h g _ _ _ _ _ _ w3 ((dN.later aq).later aM) (dR.later aM) iI Uj).mono ?_;intro r w4 aZ;obtain⟨⟨A4,c4,rfl,gP⟩,ei⟩:=aZ.at.less (ax.trans (cZ.mono ax.size));clear aZ))))
 all_goals
  go_wp2_with fail
  go_ret;exact⟨⟨A4,c4,rfl,gP⟩,ei⟩
end
section
variable (X Bs Bf:Nat) (sl:ByteArray->Int) (fl:Int×ByteArray->Int) (e:Ex)
theorem Ju0 (hk:e.kind=8\/e.kind=9) (hs:0<e.sub.length) (ih:∀x∈e.sub,Jag X Bs Bf sl fl x):Jag X Bs Bf sl fl e:=by
 intro A cap ck cs w hp he hc;obtain⟨bI,aD⟩:=he.len;unfold maxLen at aD;have hx:e.sub[0]?=some e.sub[0]:=List.getElem?_eq_getElem hs;generalize e.sub[0]=x at hx;have sF:=ih x (List.mem_of_getElem? hx)
 have hw:K4 e.kind e.name (ck,cs) 0=(0,⟨#[]⟩):=by
  unfold K4;rw [if_neg Ua,if_pos Ua]
 have hv:e.gen sl fl (ck,cs)=x.gen sl fl (0,⟨#[]⟩):=by
  rw [Ex.gen_eq,Jae,if_neg Ua,if_neg Ua,if_neg Ua,if_neg Ua,if_neg Ua,if_pos hk,Ex.genL_get sl fl e.kind e.name (ck,cs) e.sub 0 0 x hx,hw]
 rw [hv];have t3:(e.kind == 3)=false:=Uj;have t4:(e.kind == 4)=false:=Uj;have t5:(e.kind == 5)=false:=Uj;have t6:(e.kind == 6)=false:=Uj;have t7:(e.kind == 7)=false:=Uj
 have t89:(e.kind == 8)=true\/(e.kind == 8)=false/\(e.kind == 9)=true:=by
  rcases hk with h|h
  ·exact .inl Tf
  ·exact .inr ⟨Tf,Tf⟩
 have HP:=Lib.hid hp;have HE:=Lib.hid he;have HX:=Lib.hid hx;clear hk hv hp he hc hw hx ih
 rcases t89 with t8|⟨t8,t9⟩
 all_goals
  unfold exV;have gZ:∀(fn:Fn) (first cap:Array Value) (w:World),(Instr.makeFunc fn first cap).run Tryz.prog w = .ok (.func fn first cap) w:=fun _ _ _ _=>rfl
  go_enter Tryz.func23,Tryz.ntmps23
  go_wp2_with fail
  refine Jo fun W0 ag=>?_;have ax:Below w.heap.size w W0:=Uo;have bD:W0.heap.size=w.heap.size+3:=La;have p0:W0.cell? ⟨w.heap.size,0,none⟩=some (.pointer (some ⟨X,0,none⟩)):=Uc;have e0:W0.cell? ⟨w.heap.size+1,0,none⟩=some (.int .i64 e.kind):=Uc;have e1:W0.cell? ⟨w.heap.size+1,1,none⟩=some (.int .i32 e.n):=Uc;have e2:W0.cell? ⟨w.heap.size+1,2,none⟩=some (.string e.name):=Uc;have e3:W0.cell? ⟨w.heap.size+1,3,none⟩=some (.slice A e.sub.length cap):=Uc;have k0:W0.cell? ⟨w.heap.size+2,0,none⟩=some (.int .i64 ck):=Uc;have k1:W0.cell? ⟨w.heap.size+2,1,none⟩=some (.string cs):=Uc;have jl:w.heap.size<W0.heap.size:=Ua;have bV:w.heap.size+1<W0.heap.size:=Ua;have gq:w.heap.size+2<W0.heap.size:=Ua;have hz:w.heap.size<=W0.heap.size:=Ua;clear ag gZ bD;obtain⟨b,off,A',cap',hA,c0,c1,c2,c3,bd⟩:=(HE.out.later ax).get HX.out;subst hA;simp only [Nat.zero_mul,Nat.add_zero] at c0 c1 c2 c3;have aH:=block_lt_of_cell c0;have az:=sF A' cap' 0 ⟨#[]⟩ W0.drew (HP.out.later ax).drew (bd.later (Jh (Below.refl _ _))) ⟨Vs,Ux⟩;unfold exV at az;have HCA:=Lib.hid az;clear az bd
  go_region_law (go_simp;go_wp2_with (go_at_call 23;go_loud (refine HCA.out.mono ?_;rintro r w1 ⟨⟨A1,c1',rfl,dN⟩,ac⟩)))
  all_goals
   go_wp2_with fail
   go_ret;exact⟨⟨_,_,rfl,dN⟩,ax.trans (Below.mono ((Jh (Below.refl _ _)).trans (ac.mono Ul)) hz)⟩
end
section
variable (X Bs Bf:Nat) (sl:ByteArray->Int) (fl:Int×ByteArray->Int) (e:Ex)
theorem Jzh (hk:e.kind=10) (hs:1<e.sub.length) (cE:e.size<=200000) (aw:okS e.name) (ih:∀x∈e.sub,Jag X Bs Bf sl fl x):Jag X Bs Bf sl fl e:=by
 intro A cap ck cs w hp he hc;obtain⟨bI,aD⟩:=he.len;unfold maxLen at aD;have hx:e.sub[0]?=some (e.sub[0]' Ua):=List.getElem?_eq_getElem _;have hy:e.sub[1]?=some e.sub[1]:=List.getElem?_eq_getElem hs;generalize e.sub[0]' Ua=x at hx;generalize e.sub[1]=y at hy;have xe:0<e.sub.length:=Ua;have bC:(1:Int)<(e.sub.length:Int):=Ua;have hihx:=ih x (List.mem_of_getElem? hx);have hihy:=ih y (List.mem_of_getElem? hy)
 have tL:K4 e.kind e.name (ck,cs) (0+0)=(1,e.name):=by
  unfold K4;rw [if_pos hk];rfl
 have wD:K4 e.kind e.name (ck,cs) (0+1)=(2,e.name):=by
  unfold K4;rw [if_pos hk];rfl
 have hv:e.gen sl fl (ck,cs)=Yv [(2,sl e.name)] (x.gen sl fl (1,e.name)) (y.gen sl fl (2,e.name)):=by
  rw [Ex.gen_eq,Jae,if_neg Ua,if_neg Ua,if_neg Ua,if_neg Ua,if_neg Ua,if_neg Ua,if_pos hk,Ex.genL_get sl fl e.kind e.name (ck,cs) e.sub 0 0 x hx,Ex.genL_get sl fl e.kind e.name (ck,cs) e.sub 0 1 y hy,tL,wD]
 have eS:=Ex.gen_len sl fl e (ck,cs);rw [hv] at eS ⊢;rw [Ex.choice_len] at eS;have t3:(e.kind == 3)=false:=L6;have t4:(e.kind == 4)=false:=L6;have t5:(e.kind == 5)=false:=L6;have t6:(e.kind == 6)=false:=L6;have t7:(e.kind == 7)=false:=L6;have t8:(e.kind == 8)=false:=L6;have t9:(e.kind == 9)=false:=L6;have t10:(e.kind == 10)=true:=L6;have HP:=Lib.hid hp;have HE:=Lib.hid he;have HX:=Lib.hid hx;have HY:=Lib.hid hy;unfold exV;have HG:=Lib.hid eS;clear hk hv hp he hc tL wD hx hy eS ih;have gZ:∀(fn:Fn) (first cap:Array Value) (w:World),(Instr.makeFunc fn first cap).run Tryz.prog w = .ok (.func fn first cap) w:=fun _ _ _ _=>rfl
 go_enter Tryz.func23,Tryz.ntmps23
 go_wp2_with fail
 refine Jo fun W0 ag=>?_;have ax:Below w.heap.size w W0:=Uo;have bD:W0.heap.size=w.heap.size+3:=La;have p0:W0.cell? ⟨w.heap.size,0,none⟩=some (.pointer (some ⟨X,0,none⟩)):=Uc;have e0:W0.cell? ⟨w.heap.size+1,0,none⟩=some (.int .i64 e.kind):=Uc;have e1:W0.cell? ⟨w.heap.size+1,1,none⟩=some (.int .i32 e.n):=Uc;have e2:W0.cell? ⟨w.heap.size+1,2,none⟩=some (.string e.name):=Uc;have e3:W0.cell? ⟨w.heap.size+1,3,none⟩=some (.slice A e.sub.length cap):=Uc;have k0:W0.cell? ⟨w.heap.size+2,0,none⟩=some (.int .i64 ck):=Uc;have k1:W0.cell? ⟨w.heap.size+2,1,none⟩=some (.string cs):=Uc;have jl:w.heap.size<W0.heap.size:=Ua;have bV:w.heap.size+1<W0.heap.size:=Ua;have gq:w.heap.size+2<W0.heap.size:=Ua;have hz:w.heap.size<=W0.heap.size:=Ua;clear ag gZ bD;obtain⟨b,off,A',cap',hA,c0,c1,c2,c3,bd⟩:=(HE.out.later ax).get HX.out;obtain⟨b',off',A'',cap'',lL,g0,g1,g2,g3,hs3⟩:=(HE.out.later ax).get HY.out;rw [hA] at lL;injection lL with lL;injection lL with hA1 tM xJ;subst hA1 tM hA;simp only [Nat.zero_mul,Nat.add_zero,Nat.one_mul] at c0 c1 c2 c3 g0 g1 g2 g3;have aH:=block_lt_of_cell c0;have az:=hihx A' cap' 1 e.name W0.drew (HP.out.later ax).drew (bd.later (Jh (Below.refl _ _))) ⟨Vs,aw⟩;have lM:=fun W (hb:Below W0.heap.size W0 W)=>hihy A'' cap'' 2 e.name W ((HP.out.later ax).later hb) (hs3.later hb) ⟨Vs,aw⟩;unfold exV at az lM;have HCA:=Lib.hid az;have HCB:=Lib.hid lM;have gK:(x.gen sl fl (1,e.name)).length+(y.gen sl fl (2,e.name)).length<=700000:=by have:=HG.out;omega
 clear az lM bd hs3;generalize x.gen sl fl (1,e.name)=g at *;generalize y.gen sl fl (2,e.name)=h at *
 go_region_law (go_simp;go_wp2_with (go_at_call 23;go_loud (refine HCA.out.mono ?_;rintro r w1 ⟨⟨A1,c1',rfl,dN⟩,ac⟩)))
 all_goals
  have cT:Below W0.heap.size W0 w1:=(Jh (Below.refl _ _)).trans (ac.mono Ul);replace p0:=Ja cT p0;replace e0:=Ja cT e0;replace e2:=Ja cT e2;replace e3:=Ja cT e3;replace g0:=Ja cT g0;replace g1:=Ja cT g1;replace g2:=Ja cT g2;replace g3:=Ja cT g3;clear e1 k0 k1 c0 c1 c2 c3;have ii:=(HP.out.later ax).later cT;obtain⟨m0,m2,⟨n,f,c,hm,hf⟩,_⟩:=ii;have hX:X<w1.heap.size:=block_lt_of_cell m0;have af:=cT.size;have jU:=block_lt_of_cell g0
  have hS:∀w',Below w1.heap.size w1 w'->w'.cell? ⟨w.heap.size,0,none⟩=some (.pointer (some ⟨X,0,none⟩))/\w'.cell? ⟨w.heap.size+1,2,none⟩=some (.string e.name)/\w'.cell? ⟨w.heap.size+1,3,none⟩=some (.slice (some ⟨b,off,none⟩) e.sub.length cap)/\
    w'.cell? ⟨b,off+4,none⟩=some (.int .i64 y.kind)/\w'.cell? ⟨b,off+4+1,none⟩=some (.int .i32 y.n)/\w'.cell? ⟨b,off+4+2,none⟩=some (.string y.name)/\w'.cell? ⟨b,off+4+3,none⟩=some (.slice A'' y.sub.length cap'')/\w'.cell? ⟨X,0,none⟩=some (.map (some Bs))/\
    (Instr.lookup 68 (.map (some Bs)) (.string e.name) false).run Tryz.prog w' = .ok (.int .i32 (sl e.name)) w':=fun w' hb=>
   ⟨Ja hb p0,Ja hb e2,Ja hb e3,Ja hb g0,Ja hb g1,Ja hb g2,Ja hb g3,Ja hb m0,Jcb (Jc2 Tryz.underlying9) (x:= .string e.name) Tryz.underlying68 Tryz.underlying21 (Jbp _) rfl (hm.bel hb) aw (hf _ aw)⟩
  have tN:=Lib.hid hS;clear hm hf ac hS
  go_wp2_with fail
  go_region_held3 (fun w'=>w'.cell? ⟨w.heap.size,0,none⟩=some (.pointer (some ⟨X,0,none⟩))/\w'.cell? ⟨w.heap.size+1,2,none⟩=some (.string e.name)/\w'.cell? ⟨w.heap.size+1,3,none⟩=some (.slice (some ⟨b,off,none⟩) e.sub.length cap)/\
    w'.cell? ⟨b,off+4,none⟩=some (.int .i64 y.kind)/\w'.cell? ⟨b,off+4+1,none⟩=some (.int .i32 y.n)/\w'.cell? ⟨b,off+4+2,none⟩=some (.string y.name)/\w'.cell? ⟨b,off+4+3,none⟩=some (.slice A'' y.sub.length cap'')/\w'.cell? ⟨X,0,none⟩=some (.map (some Bs))/\
    (Instr.lookup 68 (.map (some Bs)) (.string e.name) false).run Tryz.prog w' = .ok (.int .i32 (sl e.name)) w')
   (first|exact tN.out _ (Jh (Below.refl _ _))|exact tN.out _ qN|exact tN.out _ hC3|exact tN.out _ xK)
   (first
   | (go_at_call_of 21 (Value.int IntKind.i64 2);refine(Jak _ _ _).mono ?_;rintro r w2 ⟨⟨rfl,ao⟩,aq⟩;have dR:=J3.one ao;have br:=aq.size;have xK:Below w1.heap.size w1 w2:=(Jh (Below.refl _ _)).trans (aq.mono Ul);have cF:=cT.trans (Below.mono xK cT.size);clear ao)
   | (go_at_call 23;refine(HCB.out _ cF).mono ?_;rintro r w3 ⟨⟨A3,c3',rfl,iI⟩,aM⟩;have fe:=aM.size;have hC3:=xK.trans (aM.mono xK.size);have cZ:=cF.trans (aM.mono cF.size))
   | (go_at_call 44;refine(Jg5 [(2,sl e.name)] g h _ _ _ _ _ _ w3 (dR.later aM) ((dN.later xK).later aM) iI Uj).mono ?_;intro r w4 aZ;obtain⟨⟨A4,c4,rfl,gP⟩,ei⟩:=aZ.at.less (ax.trans (cZ.mono ax.size));have qN:=hC3.trans (aZ.2.mono hC3.size);clear aZ))
  all_goals
   go_wp2_with fail
   go_ret;exact⟨⟨A4,c4,rfl,gP⟩,ei⟩
end
theorem Jow (X Bs Bf:Nat) (sl:ByteArray->Int) (fl:Int×ByteArray->Int) (e:Ex):e.formed=true->e.size<=200000->Jag X Bs Bf sl fl e:=by
 induction e using Ex.ind with
 | h e ih=>
  intro hf hz
  have ih2:∀x∈e.sub,Jag X Bs Bf sl fl x:=fun x hx=>ih x hx (Q9 hf x hx) (by
   obtain⟨k,hk⟩:=List.getElem?_of_mem hx;have:=Ex.size_mem e.sub k x hk;have:=Ex.size_eq e;omega)
  obtain⟨hn,hs⟩:=Ex.formed_kind hf;have aw:okS e.name:=by unfold okS maxLen;omega
  by_cases h3:e.kind=3
  ·exact Jz9 X Bs Bf sl fl e h3 aw
  by_cases h4:e.kind=4
  ·exact Jz6 X Bs Bf sl fl e h4 (by rw [h4] at hn;simp [Jw] at hn;omega) hz ih2
  by_cases h5:e.kind=5
  ·exact Jzz X Bs Bf sl fl e h5 (by rw [h5] at hn;simp [Jw] at hn;omega) hz ih2
  by_cases h6:e.kind=6
  ·exact Kae X Bs Bf sl fl e h6 (by rw [h6] at hn;simp [Jw] at hn;omega) hz ih2
  by_cases h7:e.kind=7
  ·exact Jz5 X Bs Bf sl fl e h7 (by rw [h7] at hn;simp [Jw] at hn;omega) hz ih2
  by_cases h8:e.kind=8
  ·exact Ju0 X Bs Bf sl fl e (.inl h8) (by rw [h8] at hn;simp [Jw] at hn;omega) ih2
  by_cases h9:e.kind=9
  ·exact Ju0 X Bs Bf sl fl e (.inr h9) (by rw [h9] at hn;simp [Jw] at hn;omega) ih2
  by_cases bM:e.kind=10
  ·exact Jzh X Bs Bf sl fl e bM (by rw [bM] at hn;simp [Jw] at hn;omega) hz aw ih2
  exact Jz0 X Bs Bf sl fl e ⟨h3,h4,h5,h6,h7,h8,h9,bM⟩
end Go.Proofs.YtknfcamdfdfoeaaGreatDoor
