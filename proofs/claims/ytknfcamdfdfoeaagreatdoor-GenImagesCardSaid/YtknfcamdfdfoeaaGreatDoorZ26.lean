/- Lemmas. -/
import Derived.Test.YtknfcamdfdfoeaaGreatDoorMac
import Derived.Test.YtknfcamdfdfoeaaGreatDoorZ21
import Derived.Test.YtknfcamdfdfoeaaGreatDoorZ02
set_option linter.unusedVariables false
set_option linter.unusedSimpArgs false
set_option maxRecDepth 100000
set_option maxHeartbeats 64000000
namespace Go.Proofs.YtknfcamdfdfoeaaGreatDoor
open Go.RowKit Go.Sort Go.Maps
def Jag (X Bs Bf:Nat) (sl:ByteArray->Int) (fl:Int×ByteArray->Int) (x:Ex):Prop:=∀(A:Option Addr) (cap:Nat) (ck:Int) (cs:ByteArray) (w:World),Jb1 w X Bs Bf sl fl->Jt w x A cap->okC (ck,cs)->
 Calls Tryz.prog 23 #[.pointer (some ⟨X,0,none⟩),exV x A cap,.agg #[.int .i64 ck,.string cs]] w (Jci w (x.gen sl fl (ck,cs)))
structure Jge (W:World) (bp be bc X:Nat) (A:Option Addr) (len cap:Nat) (ck:Int) (cs:ByteArray):Prop where
 p0:W.cell? ⟨bp,0,none⟩=some (.pointer (some ⟨X,0,none⟩))
 e3:W.cell? ⟨be,3,none⟩=some (.slice A len cap)
 k0:W.cell? ⟨bc,0,none⟩=some (.int .i64 ck)
 k1:W.cell? ⟨bc,1,none⟩=some (.string cs)
theorem Jge.later {W W':World} {bp be bc X:Nat} {A:Option Addr} {len cap:Nat} {ck:Int} {cs:ByteArray} (h:Jge W bp be bc X A len cap ck cs) (hb:Below W.heap.size W W'):Jge W' bp be bc X A len cap ck cs:=
 ⟨Ja hb h.p0,Ja hb h.e3,Ja hb h.k0,Ja hb h.k1⟩
theorem Jwz (X Bs Bf:Nat) (sl:ByteArray->Int) (fl:Int×ByteArray->Int) (e x:Ex) (i:Nat) (hx:e.sub[i]?=some x) (ih:Jag X Bs Bf sl fl x) (bp be bc:Nat) (A:Option Addr) (cap:Nat) (ck:Int) (cs:ByteArray) (w:World)
  (hh:Jge w bp be bc X A e.sub.length cap ck cs) (hp:Jb1 w X Bs Bf sl fl) (he:Jt w e A cap) (hc:okC (ck,cs)) :
  Calls Tryz.prog 43 #[.int .i64 i,.pointer (some ⟨bp,0,none⟩),.pointer (some ⟨be,0,none⟩),.pointer (some ⟨bc,0,none⟩)] w (Jci w (x.gen sl fl (ck,cs))):=by
 obtain⟨p0,e3,k0,k1⟩:=hh;have am:i<e.sub.length:=(Nh hx).1;obtain⟨bI,aD⟩:=he.len;unfold maxLen at aD;obtain⟨b,off,A',cap',rfl,c0,c1,c2,c3,hs⟩:=he.get hx;have hbp:=Nu p0;have ef:=Nu e3;have bU:=Nu k0;have aH:=Nu c0;have sF:=ih A' cap' ck cs w.drew (hp.later (Jh (Nt))) (hs.later (Jh (Nt))) hc;unfold exV at sF;have xT:=Nf sF;clear hx he hs sF ih hp hc
 go_enter Tryz.func43,Tryz.ntmps43
 go_wp2_with fail
 go_region_law (go_simp;go_wp2_with (go_at_call 23;go_loud (refine xT.out.mono ?_;rintro r w1 ⟨⟨A1,c1',rfl,dN⟩,ac⟩)))
 all_goals
  go_wp2_with fail
  go_ret;exact⟨⟨_,_,rfl,dN⟩,(Jh (Nt)).trans (ac.mono Ul)⟩
theorem Jb1.drew {W:World} {X Bs Bf:Nat} {sl:ByteArray->Int} {fl:Int×ByteArray->Int} (h:Jb1 W X Bs Bf sl fl):Jb1 W.drew X Bs Bf sl fl:=h.later (Jh (Nt))
theorem Jcw {X Bs Bf:Nat} {sl:ByteArray->Int} {fl:Int×ByteArray->Int} {e x:Ex} {i:Nat} (hx:e.sub[i]?=some x) (ih:∀x∈e.sub,Jag X Bs Bf sl fl x) {bp be bc:Nat} {A:Option Addr} {cap:Nat} {ck:Int} {cs:ByteArray} {w0:World}
  (hh:Jge w0 bp be bc X A e.sub.length cap ck cs) (hp:Jb1 w0 X Bs Bf sl fl) (he:Jt w0 e A cap) (hc:okC (ck,cs)):Hid (∀w,Below w0.heap.size w0 w->
  Calls Tryz.prog 43 #[.int .i64 i,.pointer (some ⟨bp,0,none⟩),.pointer (some ⟨be,0,none⟩),.pointer (some ⟨bc,0,none⟩)] w (Jci w (x.gen sl fl (ck,cs)))):=
 Nf fun w hb=>Jwz X Bs Bf sl fl e x i hx (ih x (Ni hx)) bp be bc A cap ck cs w (hh.later hb) (hp.later hb) (he.later hb) hc
section
variable (X Bs Bf:Nat) (sl:ByteArray->Int) (fl:Int×ByteArray->Int) (e:Ex)
theorem Jz9 (hk:e.kind=3) (aw:okS e.name):Jag X Bs Bf sl fl e:=by
 intro A cap ck cs w hp he hc;obtain⟨bI,aD⟩:=he.len;unfold maxLen at aD;have hv:e.gen sl fl (ck,cs) = [(2,sl e.name)]:=by rw [Ex.gen_eq];unfold Jae;simp [hk]
 rw [hv];have t3:(e.kind == 3)=true:=Vw;have HP:=Nf hp;unfold exV;clear hk hv hp he hc;have gZ:∀(fn:Fn) (first cap:Array Value) (w:World),(Instr.makeFunc fn first cap).run Tryz.prog w = .ok (.func fn first cap) w:=fun _ _ _ _=>rfl
 go_enter Tryz.func23,Tryz.ntmps23
 go_wp2_with fail
 refine Jo fun W0 ag=>?_;have ax:=Nd w W0 Uo;have bD:W0.heap.size=w.heap.size+3:=La;have p0:=Nb W0 w.heap.size 0 (.pointer (some ⟨X,0,none⟩)) Uc;have e0:=Na W0 (w.heap.size+1) 0 e.kind Uc;have e1:=Nb W0 (w.heap.size+1) 1 (.int .i32 e.n) Uc;have e2:=Nb W0 (w.heap.size+1) 2 (.string e.name) Uc;have e3:=Nb W0 (w.heap.size+1) 3 (.slice A e.sub.length cap) Uc;have k0:=Na W0 (w.heap.size+2) 0 ck Uc;have k1:=Nb W0 (w.heap.size+2) 1 (.string cs) Uc;have jl:=lt0 w W0;have bV:=ltA w 1 W0;have gq:=ltA w 2 W0;have hz:w.heap.size<=W0.heap.size:=Ua;clear ag gZ bD;have pp:=HP.out.later ax;obtain⟨c0,c2,⟨n,f,c,hm,hf⟩,_⟩:=pp;have hX:X<W0.heap.size:=Nu c0;have hlk:=Jcb (w:=W0.drew) (Jc2 Tryz.underlying9) (x:= .string e.name) Tryz.underlying68 Tryz.underlying21 (Jbp _) rfl hm.drew aw (hf _ aw);clear hm hf
 go_region_law (go_simp;go_wp2_with (go_at_call_of 21 (Value.int IntKind.i64 2);go_loud (refine(Jak _ _ _).mono ?_;rintro r w1 ⟨⟨rfl,ba⟩,ac⟩;have dN:=J3.one ba;have af:=ac.size;clear ba)))
 all_goals
  go_wp2_with fail
  go_ret;exact⟨⟨_,_,rfl,by simpa using dN⟩,ax.trans (Below.mono ((Jh (Nt)).trans (ac.mono Ul)) Ua)⟩
theorem Jz6 (hk:e.kind=4) (hs:0<e.sub.length) (cE:e.size<=200000) (ih:∀x∈e.sub,Jag X Bs Bf sl fl x):Jag X Bs Bf sl fl e:=by
 intro A cap ck cs w hp he hc;obtain⟨bI,aD⟩:=he.len;unfold maxLen at aD;have hx:e.sub[0]?=some e.sub[0]:=Ng hs;generalize e.sub[0]=x at hx;have hw:K4 e.kind e.name (ck,cs) 0=(ck,cs):=by unfold K4;simp [hk]
 have hv:e.gen sl fl (ck,cs)=x.gen sl fl (ck,cs) ++ [(8,e.n)]:=by
  rw [Ex.gen_eq,Jae,if_neg Ua,if_pos hk,Ex.genL_get sl fl e.kind e.name (ck,cs) e.sub 0 0 x hx,hw]
 have eS:=Ex.gen_len sl fl e (ck,cs);rw [hv] at eS ⊢;have t3:(e.kind == 3)=false:=L6;have t4:(e.kind == 4)=true:=Vw;have HP:=Nf hp;have HE:=Nf he;have HX:=Nf hx;have HC:=Nf hc;unfold exV;have HG:=Nf eS;clear hk hv hp he hc hw hx eS;have gZ:∀(fn:Fn) (first cap:Array Value) (w:World),(Instr.makeFunc fn first cap).run Tryz.prog w = .ok (.func fn first cap) w:=fun _ _ _ _=>rfl
 go_enter Tryz.func23,Tryz.ntmps23
 go_wp2_with fail
 refine Jo fun W0 ag=>?_;have ax:=Nd w W0 Uo;have bD:W0.heap.size=w.heap.size+3:=La;have p0:=Nb W0 w.heap.size 0 (.pointer (some ⟨X,0,none⟩)) Uc;have e0:=Na W0 (w.heap.size+1) 0 e.kind Uc;have e1:=Nb W0 (w.heap.size+1) 1 (.int .i32 e.n) Uc;have e2:=Nb W0 (w.heap.size+1) 2 (.string e.name) Uc;have e3:=Nb W0 (w.heap.size+1) 3 (.slice A e.sub.length cap) Uc;have k0:=Na W0 (w.heap.size+2) 0 ck Uc;have k1:=Nb W0 (w.heap.size+2) 1 (.string cs) Uc;have jl:=lt0 w W0;have bV:=ltA w 1 W0;have gq:=ltA w 2 W0;have hz:w.heap.size<=W0.heap.size:=Ua;clear ag gZ bD;have pp:=Jcw HX.out ih ⟨p0,e3,k0,k1⟩ (HP.out.later ax) (HE.out.later ax) HC.out
 have ay:=Nf (fun(g:List (Int×Int)) (hg:g.length<=700000) (A1:Option Addr) (c1 g2:Nat) (W:World) (dN:J3 W g A1 c1) (dR:J3 W [(8,e.n)] (some ⟨g2,0,none⟩) 1) (t:TypeId)=>
  Jc0 [⟨g,A1,c1⟩,⟨[(8,e.n)],some ⟨g2,0,none⟩,1⟩] (some ⟨W.heap.size,0,none⟩) 2
   (W.alloc (.cells #[.slice A1 g.length c1,.slice (some ⟨g2,0,none⟩) 1 1] t))
   (Jan rfl fun x hx=>by
    simp only [List.mem_cons,List.not_mem_nil,or_false] at hx
    rcases hx with rfl|rfl
    ·exact dN
    ·exact dR)
   Gj Ul)
 have gK:(x.gen sl fl (ck,cs)).length<=700000:=by have:=HG.out;rw [Nk] at this;omega
 have gM:∀(A1:Option Addr) (c1 g2:Nat),Qu [⟨x.gen sl fl (ck,cs),A1,c1⟩,⟨[(8,e.n)],some ⟨g2,0,none⟩,1⟩]=x.gen sl fl (ck,cs) ++ [(8,e.n)]:=fun _ _ _=>by simp [Qu]
 have wL:=Nf gM;clear gM;generalize x.gen sl fl (ck,cs)=g at *
 go_region_law (go_simp;go_wp2_with (first
  | (go_at_call_of 43 (Value.int IntKind.i64 0);go_loud (refine(pp.out _ Jb).mono ?_;rintro r w1 ⟨⟨A1,c1,rfl,dN⟩,ac⟩;have d1:=Ja ac (Zw e1);have af:=ac.size))
  | (go_at_call_of 21 (Value.int IntKind.i64 8);go_loud (refine(Jak _ _ _).mono ?_;rintro r w2 ⟨⟨rfl,ao⟩,aq⟩;have dR:=J3.one ao;have br:=aq.size;have d2:=Ja aq d1;clear ao))
  | (go_at_call 20;go_loud (refine(ay.out g gK _ _ _ w2 (dN.later aq) dR _).mono ?_;rw [wL.out];intro r w4 aZ;obtain⟨⟨A4,c4,rfl,gP⟩,ei⟩:=aZ.at.less (Jc (ax.trans (Below.mono (Below.trans (Jh (Nt)) (Below.trans (ac.mono Ul) (aq.mono af))) (by first|omega|simpa using hz))) _);clear aZ))))
 all_goals
  go_wp2_with fail
  go_ret;exact⟨⟨A4,c4,by rw [Nk];rfl,gP⟩,ei⟩
end
section
variable (X Bs Bf:Nat) (sl:ByteArray->Int) (fl:Int×ByteArray->Int) (e:Ex)
theorem Jzz (hk:e.kind=5) (hs:1<e.sub.length) (cE:e.size<=200000) (ih:∀x∈e.sub,Jag X Bs Bf sl fl x):Jag X Bs Bf sl fl e:=by
 intro A cap ck cs w hp he hc;obtain⟨bI,aD⟩:=he.len;unfold maxLen at aD;have hx:e.sub[0]?=some (e.sub[0]' Ua):=Ng _;have hy:e.sub[1]?=some e.sub[1]:=Ng hs;generalize e.sub[0]' Ua=x at hx;generalize e.sub[1]=y at hy;have hw:∀i,K4 e.kind e.name (ck,cs) i=(ck,cs):=Sj
 have hv:e.gen sl fl (ck,cs)=x.gen sl fl (ck,cs) ++ y.gen sl fl (ck,cs) ++ [(9,e.n)]:=by
  rw [Ex.gen_eq,Jae,if_neg Ua,if_neg Ua,if_pos hk,Ex.genL_get sl fl e.kind e.name (ck,cs) e.sub 0 0 x hx,Ex.genL_get sl fl e.kind e.name (ck,cs) e.sub 0 1 y hy,hw,hw]
 have eS:=Ex.gen_len sl fl e (ck,cs);rw [hv] at eS ⊢;have t3:(e.kind == 3)=false:=L6;have t4:(e.kind == 4)=false:=L6;have t5:(e.kind == 5)=true:=Vw;have HP:=Nf hp;have HE:=Nf he;have HX:=Nf hx;have HY:=Nf hy;have HC:=Nf hc;unfold exV;have HG:=Nf eS;clear hk hv hp he hc hw hx hy eS;have gZ:∀(fn:Fn) (first cap:Array Value) (w:World),(Instr.makeFunc fn first cap).run Tryz.prog w = .ok (.func fn first cap) w:=fun _ _ _ _=>rfl
 go_enter Tryz.func23,Tryz.ntmps23
 go_wp2_with fail
 refine Jo fun W0 ag=>?_;have ax:=Nd w W0 Uo;have bD:W0.heap.size=w.heap.size+3:=La;have p0:=Nb W0 w.heap.size 0 (.pointer (some ⟨X,0,none⟩)) Uc;have e0:=Na W0 (w.heap.size+1) 0 e.kind Uc;have e1:=Nb W0 (w.heap.size+1) 1 (.int .i32 e.n) Uc;have e2:=Nb W0 (w.heap.size+1) 2 (.string e.name) Uc;have e3:=Nb W0 (w.heap.size+1) 3 (.slice A e.sub.length cap) Uc;have k0:=Na W0 (w.heap.size+2) 0 ck Uc;have k1:=Nb W0 (w.heap.size+2) 1 (.string cs) Uc;have jl:=lt0 w W0;have bV:=ltA w 1 W0;have gq:=ltA w 2 W0;have hz:w.heap.size<=W0.heap.size:=Ua;clear ag gZ bD;have pp:=Jcw HX.out ih ⟨p0,e3,k0,k1⟩ (HP.out.later ax) (HE.out.later ax) HC.out;have ii:=Jcw HY.out ih ⟨p0,e3,k0,k1⟩ (HP.out.later ax) (HE.out.later ax) HC.out;have gK:(x.gen sl fl (ck,cs)).length+(y.gen sl fl (ck,cs)).length<=700000:=by have:=HG.out;rw [Nk,Nk] at this;omega
 generalize x.gen sl fl (ck,cs)=g at *;generalize y.gen sl fl (ck,cs)=h at *
 have ay:=Nf (fun(A1:Option Addr) (c1:Nat) (A2:Option Addr) (c2 g2:Nat) (W:World) (dN:J3 W g A1 c1) (dR:J3 W h A2 c2) (iI:J3 W [(9,e.n)] (some ⟨g2,0,none⟩) 1) (t:TypeId)=>
  Jc0 [⟨g,A1,c1⟩,⟨h,A2,c2⟩,⟨[(9,e.n)],some ⟨g2,0,none⟩,1⟩] (some ⟨W.heap.size,0,none⟩) 3
   (W.alloc (.cells #[.slice A1 g.length c1,.slice A2 h.length c2,.slice (some ⟨g2,0,none⟩) 1 1] t))
   (Jan rfl fun x hx=>by
    simp only [List.mem_cons,List.not_mem_nil,or_false] at hx
    rcases hx with rfl|rfl|rfl
    ·exact dN
    ·exact dR
    ·exact iI)
   Gj Ul)
 have gM:∀(A1:Option Addr) (c1:Nat) (A2:Option Addr) (c2 g2:Nat),Qu [⟨g,A1,c1⟩,⟨h,A2,c2⟩,⟨[(9,e.n)],some ⟨g2,0,none⟩,1⟩]=g ++ h ++ [(9,e.n)]:=fun _ _ _ _ _=>by simp [Qu]
 have wL:=Nf gM;clear gM
 go_region_law (go_simp;go_wp2_with (first
  | (go_at_call_of 43 (Value.int IntKind.i64 0);go_loud (refine(pp.out _ Jb).mono ?_;rintro r w1 ⟨⟨A1,c1,rfl,dN⟩,ac⟩;have d1:=Ja ac (Zw e1);have af:=ac.size;have cT:=Nd W0 w1 ((Jh (Nt)).trans (ac.mono Ul))))
  | (go_at_call_of 43 (Value.int IntKind.i64 1);go_loud (refine(ii.out _ cT).mono ?_;rintro r w2 ⟨⟨A2,c2,rfl,dR⟩,aq⟩;have d2:=Ja aq d1;have br:=aq.size;have cF:=cT.trans (aq.mono cT.size)))
  | (go_at_call_of 21 (Value.int IntKind.i64 9);go_loud (refine(Jak _ _ _).mono ?_;rintro r w3 ⟨⟨rfl,aE⟩,aM⟩;have iI:=J3.one aE;have fe:=aM.size;have d3:=Ja aM d2;have cZ:=cF.trans (aM.mono cF.size);clear aE))
  | (go_at_call 20;go_loud (refine(ay.out _ _ _ _ _ w3 ((dN.later aq).later aM) (dR.later aM) iI _).mono ?_;rw [wL.out];intro r w4 aZ;obtain⟨⟨A4,c4,rfl,gP⟩,ei⟩:=aZ.at.less (Jc (ax.trans (cZ.mono ax.size)) _);clear aZ))))
 all_goals
  go_wp2_with fail
  go_ret;exact⟨⟨A4,c4,by rw [Nk,Nk];rfl,gP⟩,ei⟩
theorem Jz0 (hk:e.kind≠3/\e.kind≠4/\e.kind≠5/\e.kind≠6/\e.kind≠7/\e.kind≠8/\e.kind≠9/\e.kind≠10):Jag X Bs Bf sl fl e:=by
 intro A cap ck cs w hp he hc;obtain⟨bI,aD⟩:=he.len;unfold maxLen at aD;obtain⟨h3,h4,h5,h6,h7,h8,h9,bM⟩:=hk;have hv:e.gen sl fl (ck,cs) = [(1,e.n)]:=by rw [Ex.gen_eq];unfold Jae;simp [*]
 rw [hv];have t3:(e.kind == 3)=false:=Sz;have t4:(e.kind == 4)=false:=by simpa using h4
 have t5:(e.kind == 5)=false:=by simpa using h5
 have t6:(e.kind == 6)=false:=by simpa using h6
 have t7:(e.kind == 7)=false:=S9;have t8:(e.kind == 8)=false:=Dp;have t9:(e.kind == 9)=false:=by simpa using h9
 have t10:(e.kind == 10)=false:=Fb;unfold exV;clear h3 h4 h5 h6 h7 h8 h9 bM hv hp he hc;have gZ:∀(fn:Fn) (first cap:Array Value) (w:World),(Instr.makeFunc fn first cap).run Tryz.prog w = .ok (.func fn first cap) w:=fun _ _ _ _=>rfl
 go_enter Tryz.func23,Tryz.ntmps23
 go_wp2_with (go_at_call_of 21 (Value.int IntKind.i64 1);go_loud (refine(Jak _ _ _).mono ?_;rintro r w1 ⟨⟨rfl,ba⟩,ac⟩;have dN:=J3.one ba;have af:=ac.size;clear ba))
 go_ret;exact⟨⟨_,_,rfl,by simpa using dN⟩,Jb⟩
end
theorem Jkh (w:World) (X:Nat) (v0 v1 v2:Value) (A:Option Addr) (len cap:Nat) (ck:Int) (cs:ByteArray) (t1 t2 t3:TypeId):Jge (((w.alloc (.cells #[.pointer (some ⟨X,0,none⟩)] t1)).alloc (.cells #[v0,v1,v2,.slice A len cap] t2)).alloc (.cells #[.int .i64 ck,.string cs] t3)) w.heap.size (w.heap.size+1) (w.heap.size+1+1) X A len cap ck cs:=
 ⟨Uq,Uq,Uq,Uq⟩
section
variable (X Bs Bf:Nat) (sl:ByteArray->Int) (fl:Int×ByteArray->Int) (e:Ex)
theorem Kae (hk:e.kind=6) (hs:2<e.sub.length) (cE:e.size<=200000) (ih:∀x∈e.sub,Jag X Bs Bf sl fl x):Jag X Bs Bf sl fl e:=by
 intro A cap ck cs w hp he hc;obtain⟨bI,aD⟩:=he.len;unfold maxLen at aD;have hx:e.sub[0]?=some (e.sub[0]' Ua):=Ng _;have hy:e.sub[1]?=some (e.sub[1]' Ua):=Ng _;have hz:e.sub[2]?=some e.sub[2]:=Ng hs;generalize e.sub[0]' Ua=x at hx;generalize e.sub[1]' Ua=y at hy;generalize e.sub[2]=z at hz;have hw:∀i,K4 e.kind e.name (ck,cs) i=(ck,cs):=Sj
 have hv:e.gen sl fl (ck,cs)=Yv (x.gen sl fl (ck,cs)) (y.gen sl fl (ck,cs)) (z.gen sl fl (ck,cs)):=by
  rw [Ex.gen_eq,Jae,if_neg Ua,if_neg Ua,if_neg Ua,if_pos hk,Ex.genL_get sl fl e.kind e.name (ck,cs) e.sub 0 0 x hx,Ex.genL_get sl fl e.kind e.name (ck,cs) e.sub 0 1 y hy,Ex.genL_get sl fl e.kind e.name (ck,cs) e.sub 0 2 z hz,hw,hw,hw]
 have eS:=Ex.gen_len sl fl e (ck,cs);rw [hv] at eS ⊢;rw [Ex.choice_len] at eS;have t3:(e.kind == 3)=false:=L6;have t4:(e.kind == 4)=false:=L6;have t5:(e.kind == 5)=false:=L6;have t6:(e.kind == 6)=true:=Vw;have sG:∀(o1 o2 o3:Obj),Below w.heap.size w (((w.alloc o1).alloc o2).alloc o3):=fun _ _ _=>Jc (Jc (Jc (Nt) _) _) _;have pp:=Jcw hx ih (Jkh w X (.int .i64 e.kind) (.int .i32 e.n) (.string e.name) A e.sub.length cap ck cs 64 51 55) (hp.later (sG _ _ _)) (he.later (sG _ _ _)) hc;have ii:=Jcw hy ih (Jkh w X (.int .i64 e.kind) (.int .i32 e.n) (.string e.name) A e.sub.length cap ck cs 64 51 55) (hp.later (sG _ _ _)) (he.later (sG _ _ _)) hc;have gL:=Jcw hz ih (Jkh w X (.int .i64 e.kind) (.int .i32 e.n) (.string e.name) A e.sub.length cap ck cs 64 51 55) (hp.later (sG _ _ _)) (he.later (sG _ _ _)) hc;unfold exV;clear hk hv hp he hc hw hx hy hz;have gZ:∀(fn:Fn) (first cap:Array Value) (w:World),(Instr.makeFunc fn first cap).run Tryz.prog w = .ok (.func fn first cap) w:=fun _ _ _ _=>rfl;have gK:(x.gen sl fl (ck,cs)).length+(y.gen sl fl (ck,cs)).length+(z.gen sl fl (ck,cs)).length<=700000:=Ua;clear eS;generalize x.gen sl fl (ck,cs)=g at *;generalize y.gen sl fl (ck,cs)=h at *;generalize z.gen sl fl (ck,cs)=k at *
 go_enter Tryz.func23,Tryz.ntmps23
 go_wp2_with (first
  | (go_at_call_of 43 (Value.int IntKind.i64 0);go_loud (refine(pp.out _ (Nt)).mono ?_;rintro r w1 ⟨⟨A1,c1,rfl,dN⟩,ac⟩;have af:=ac.size))
  | (go_at_call_of 43 (Value.int IntKind.i64 1);go_loud (refine(ii.out _ ac).mono ?_;rintro r w2 ⟨⟨A2,c2,rfl,dR⟩,aq⟩;have br:=aq.size;have cF:=ac.trans (aq.mono af)))
  | (go_at_call_of 43 (Value.int IntKind.i64 2);go_loud (refine(gL.out _ cF).mono ?_;rintro r w3 ⟨⟨A3,c3,rfl,iI⟩,aM⟩;have fe:=aM.size;have cZ:=(sG _ _ _).trans (Below.mono (cF.trans (aM.mono cF.size)) (sG _ _ _).size)))
  | (go_at_call 44;go_loud (refine(Jg5 g h k _ _ _ _ _ _ w3 ((dN.later aq).later aM) (dR.later aM) iI Ua).mono ?_;intro r w4 aZ;obtain⟨⟨A4,c4,rfl,gP⟩,ei⟩:=aZ.at.less cZ;clear aZ)))
 go_ret;exact⟨⟨A4,c4,rfl,gP⟩,ei⟩
theorem Jz5 (hk:e.kind=7) (hs:1<e.sub.length) (cE:e.size<=200000) (ih:∀x∈e.sub,Jag X Bs Bf sl fl x):Jag X Bs Bf sl fl e:=by
 intro A cap ck cs w hp he hc;obtain⟨bI,aD⟩:=he.len;unfold maxLen at aD;have hx:e.sub[0]?=some (e.sub[0]' Ua):=Ng _;have hy:e.sub[1]?=some e.sub[1]:=Ng hs;generalize e.sub[0]' Ua=x at hx;generalize e.sub[1]=y at hy;have hw:∀i,K4 e.kind e.name (ck,cs) i=(ck,cs):=Sj
 have hv:e.gen sl fl (ck,cs)=Yv [(4,fl (ck,cs))] (y.gen sl fl (ck,cs)) (x.gen sl fl (ck,cs)):=by
  rw [Ex.gen_eq,Jae,if_neg Ua,if_neg Ua,if_neg Ua,if_neg Ua,if_pos hk,Ex.genL_get sl fl e.kind e.name (ck,cs) e.sub 0 0 x hx,Ex.genL_get sl fl e.kind e.name (ck,cs) e.sub 0 1 y hy,hw,hw]
 have eS:=Ex.gen_len sl fl e (ck,cs);rw [hv] at eS ⊢;rw [Ex.choice_len] at eS;have t3:(e.kind == 3)=false:=L6;have t4:(e.kind == 4)=false:=L6;have t5:(e.kind == 5)=false:=L6;have t6:(e.kind == 6)=false:=L6;have t7:(e.kind == 7)=true:=Vw;have HP:=Nf hp;have HE:=Nf he;have HX:=Nf hx;have HY:=Nf hy;have HC:=Nf hc;unfold exV;have HG:=Nf eS;clear hk hv hp he hc hw hx hy eS;have gZ:∀(fn:Fn) (first cap:Array Value) (w:World),(Instr.makeFunc fn first cap).run Tryz.prog w = .ok (.func fn first cap) w:=fun _ _ _ _=>rfl
 go_enter Tryz.func23,Tryz.ntmps23
 go_wp2_with fail
 refine Jo fun W0 ag=>?_;have ax:=Nd w W0 Uo;have bD:W0.heap.size=w.heap.size+3:=La;have p0:=Nb W0 w.heap.size 0 (.pointer (some ⟨X,0,none⟩)) Uc;have e0:=Na W0 (w.heap.size+1) 0 e.kind Uc;have e1:=Nb W0 (w.heap.size+1) 1 (.int .i32 e.n) Uc;have e2:=Nb W0 (w.heap.size+1) 2 (.string e.name) Uc;have e3:=Nb W0 (w.heap.size+1) 3 (.slice A e.sub.length cap) Uc;have k0:=Na W0 (w.heap.size+2) 0 ck Uc;have k1:=Nb W0 (w.heap.size+2) 1 (.string cs) Uc;have jl:=lt0 w W0;have bV:=ltA w 1 W0;have gq:=ltA w 2 W0;have hz:w.heap.size<=W0.heap.size:=Ua;clear ag gZ bD;have pp:=Jcw HX.out ih ⟨p0,e3,k0,k1⟩ (HP.out.later ax) (HE.out.later ax) HC.out;have ii:=Jcw HY.out ih ⟨p0,e3,k0,k1⟩ (HP.out.later ax) (HE.out.later ax) HC.out;have gK:(x.gen sl fl (ck,cs)).length+(y.gen sl fl (ck,cs)).length<=700000:=by have:=HG.out;omega
 generalize x.gen sl fl (ck,cs)=g at *;generalize y.gen sl fl (ck,cs)=h at *;have dS:=HP.out.later ax;obtain⟨c0,c2,_,⟨n,f,c,hm,hf⟩⟩:=dS;have hX:X<W0.heap.size:=Nu c0;have hlk:=Jcb (w:=W0.drew) (Jl0) (x:= .agg #[.int .i64 ck,.string cs]) Tryz.underlying70 Tryz.underlying21 (Jbp _) rfl hm.drew HC.out (hf _ HC.out);clear hm hf
 go_region_law (go_simp;go_wp2_with (first
  | (go_at_call_of 21 (Value.int IntKind.i64 4);go_loud (refine(Jak _ _ _).mono ?_;rintro r w1 ⟨⟨rfl,ba⟩,ac⟩;have dN:=J3.one ba;have af:=ac.size;have cT:=Nd W0 w1 ((Jh (Nt)).trans (ac.mono Ul));clear ba))
  | (go_at_call_of 43 (Value.int IntKind.i64 1);go_loud (refine(ii.out _ cT).mono ?_;rintro r w2 ⟨⟨A2,c2',rfl,dR⟩,aq⟩;have br:=aq.size;have cF:=cT.trans (aq.mono cT.size)))
  | (go_at_call_of 43 (Value.int IntKind.i64 0);go_loud (refine(pp.out _ cF).mono ?_;rintro r w3 ⟨⟨A3,c3',rfl,iI⟩,aM⟩;have fe:=aM.size;have cZ:=cF.trans (aM.mono cF.size)))
  | (go_at_call 44;go_loud (refine(Jg5 [(4,fl (ck,cs))] h g _ _ _ _ _ _ w3 ((dN.later aq).later aM) (dR.later aM) iI Uj).mono ?_;intro r w4 aZ;obtain⟨⟨A4,c4,rfl,gP⟩,ei⟩:=aZ.at.less (ax.trans (cZ.mono ax.size));clear aZ))))
 all_goals
  go_wp2_with fail
  go_ret;exact⟨⟨A4,c4,rfl,gP⟩,ei⟩
end
section
variable (X Bs Bf:Nat) (sl:ByteArray->Int) (fl:Int×ByteArray->Int) (e:Ex)
theorem Ju0 (hk:e.kind=8\/e.kind=9) (hs:0<e.sub.length) (ih:∀x∈e.sub,Jag X Bs Bf sl fl x):Jag X Bs Bf sl fl e:=by
 intro A cap ck cs w hp he hc;obtain⟨bI,aD⟩:=he.len;unfold maxLen at aD;have hx:e.sub[0]?=some e.sub[0]:=Ng hs;generalize e.sub[0]=x at hx;have sF:=ih x (Ni hx)
 have hw:K4 e.kind e.name (ck,cs) 0=(0,⟨#[]⟩):=by
  unfold K4;rw [if_neg Ua,if_pos Ua]
 have hv:e.gen sl fl (ck,cs)=x.gen sl fl (0,⟨#[]⟩):=by
  rw [Ex.gen_eq,Jae,if_neg Ua,if_neg Ua,if_neg Ua,if_neg Ua,if_neg Ua,if_pos hk,Ex.genL_get sl fl e.kind e.name (ck,cs) e.sub 0 0 x hx,hw]
 rw [hv];have t3:(e.kind == 3)=false:=Uj;have t4:(e.kind == 4)=false:=Uj;have t5:(e.kind == 5)=false:=Uj;have t6:(e.kind == 6)=false:=Uj;have t7:(e.kind == 7)=false:=Uj
 have t89:(e.kind == 8)=true\/(e.kind == 8)=false/\(e.kind == 9)=true:=by
  rcases hk with h|h
  ·exact .inl Tf
  ·exact .inr ⟨Tf,Tf⟩
 have HP:=Nf hp;have HE:=Nf he;have HX:=Nf hx;clear hk hv hp he hc hw hx ih
 rcases t89 with t8|⟨t8,t9⟩
 all_goals
  unfold exV;have gZ:∀(fn:Fn) (first cap:Array Value) (w:World),(Instr.makeFunc fn first cap).run Tryz.prog w = .ok (.func fn first cap) w:=fun _ _ _ _=>rfl
  go_enter Tryz.func23,Tryz.ntmps23
  go_wp2_with fail
  refine Jo fun W0 ag=>?_;have ax:=Nd w W0 Uo;have bD:W0.heap.size=w.heap.size+3:=La;have p0:=Nb W0 w.heap.size 0 (.pointer (some ⟨X,0,none⟩)) Uc;have e0:=Na W0 (w.heap.size+1) 0 e.kind Uc;have e1:=Nb W0 (w.heap.size+1) 1 (.int .i32 e.n) Uc;have e2:=Nb W0 (w.heap.size+1) 2 (.string e.name) Uc;have e3:=Nb W0 (w.heap.size+1) 3 (.slice A e.sub.length cap) Uc;have k0:=Na W0 (w.heap.size+2) 0 ck Uc;have k1:=Nb W0 (w.heap.size+2) 1 (.string cs) Uc;have jl:=lt0 w W0;have bV:=ltA w 1 W0;have gq:=ltA w 2 W0;have hz:w.heap.size<=W0.heap.size:=Ua;clear ag gZ bD;obtain⟨b,off,A',cap',hA,c0,c1,c2,c3,bd⟩:=(HE.out.later ax).get HX.out;subst hA;simp only [Nat.zero_mul,Nat.add_zero] at c0 c1 c2 c3;have aH:=Nu c0;have az:=sF A' cap' 0 ⟨#[]⟩ W0.drew (HP.out.later ax).drew (bd.later (Jh (Nt))) ⟨Vs,Ux⟩;unfold exV at az;have HCA:=Nf az;clear az bd
  go_region_law (go_simp;go_wp2_with (go_at_call 23;go_loud (refine HCA.out.mono ?_;rintro r w1 ⟨⟨A1,c1',rfl,dN⟩,ac⟩)))
  all_goals
   go_wp2_with fail
   go_ret;exact⟨⟨_,_,rfl,dN⟩,ax.trans (Below.mono ((Jh (Nt)).trans (ac.mono Ul)) hz)⟩
end
end Go.Proofs.YtknfcamdfdfoeaaGreatDoor
