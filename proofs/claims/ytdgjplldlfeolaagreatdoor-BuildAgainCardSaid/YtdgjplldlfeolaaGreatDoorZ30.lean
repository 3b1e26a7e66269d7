/- Lemmas. -/
import Derived.Test.YtdgjplldlfeolaaGreatDoorZ26
import Derived.Test.YtdgjplldlfeolaaGreatDoorZ01
import Derived.Test.YtdgjplldlfeolaaGreatDoorZ22
import Derived.Test.YtdgjplldlfeolaaGreatDoorZ00
set_option linter.unusedVariables false
set_option linter.unusedSimpArgs false
set_option maxRecDepth 100000
set_option maxHeartbeats 64000000
namespace Go.Proofs.YtdgjplldlfeolaaGreatDoor
open Go.RowKit Go.Sort Go.Maps
def Jag (X Bs Bf:Nat) (sl:ByteArray->Int) (fl:Int×ByteArray->Int) (x:Ex):Prop:=∀(A:Option Addr) (cap:Nat) (ck:Int) (cs:ByteArray) (w:World),Jb1 w X Bs Bf sl fl->Jt w x A cap->okC (ck,cs)->
 Calls Tryz.prog 105 #[.pointer (some ⟨X,0,none⟩),exV x A cap,.agg #[.int .i64 ck,.string cs]] w (Jci w (x.gen sl fl (ck,cs)))
structure Jge (W:World) (bp be bc X:Nat) (A:Option Addr) (len cap:Nat) (ck:Int) (cs:ByteArray):Prop where
 p0:W.cell? ⟨bp,0,none⟩=some (.pointer (some ⟨X,0,none⟩))
 e3:W.cell? ⟨be,3,none⟩=some (.slice A len cap)
 k0:W.cell? ⟨bc,0,none⟩=some (.int .i64 ck)
 k1:W.cell? ⟨bc,1,none⟩=some (.string cs)
theorem Jge.later {W W':World} {bp be bc X:Nat} {A:Option Addr} {len cap:Nat} {ck:Int} {cs:ByteArray} (h:Jge W bp be bc X A len cap ck cs) (hb:Below W.heap.size W W'):Jge W' bp be bc X A len cap ck cs:=
 ⟨Ja hb h.p0,Ja hb h.e3,Ja hb h.k0,Ja hb h.k1⟩
theorem Jwz (X Bs Bf:Nat) (sl:ByteArray->Int) (fl:Int×ByteArray->Int) (e x:Ex) (i:Nat) (hx:e.sub[i]?=some x) (ih:Jag X Bs Bf sl fl x) (bp be bc:Nat) (A:Option Addr) (cap:Nat) (ck:Int) (cs:ByteArray) (w:World)
  (hh:Jge w bp be bc X A e.sub.length cap ck cs) (hp:Jb1 w X Bs Bf sl fl) (he:Jt w e A cap) (hc:okC (ck,cs)) :
  Calls Tryz.prog 119 #[.int .i64 i,.pointer (some ⟨bp,0,none⟩),.pointer (some ⟨be,0,none⟩),.pointer (some ⟨bc,0,none⟩)] w (Jci w (x.gen sl fl (ck,cs))):=by
 obtain⟨p0,e3,k0,k1⟩:=hh;have am:i<e.sub.length:=(List.getElem?_eq_some_iff.1 hx).1;obtain⟨bI,aD⟩:=he.len;unfold maxLen at aD;obtain⟨b,off,A',cap',rfl,c0,c1,c2,c3,hs⟩:=he.get hx;have hbp:=block_lt_of_cell p0;have ef:=block_lt_of_cell e3;have bU:=block_lt_of_cell k0;have aH:=block_lt_of_cell c0;have sF:=ih A' cap' ck cs w.drew (hp.later (Jh (Below.refl _ _))) (hs.later (Jh (Below.refl _ _))) hc;unfold exV at sF;have xT:=Lib.hid sF;clear hx he hs sF ih hp hc
 go_enter Tryz.func119,Tryz.ntmps119
 go_wp2_with fail
 go_region_law (go_simp;go_wp2_with (go_at_call 105;go_loud (refine xT.out.mono ?_;rintro r w1 ⟨⟨A1,c1',rfl,dN⟩,ac⟩)))
 all_goals
  go_wp2_with fail
  go_ret;exact⟨⟨_,_,rfl,dN⟩,(Jh (Below.refl _ _)).trans (ac.mono (by simp))⟩
theorem Jb1.drew {W:World} {X Bs Bf:Nat} {sl:ByteArray->Int} {fl:Int×ByteArray->Int} (h:Jb1 W X Bs Bf sl fl):Jb1 W.drew X Bs Bf sl fl:=h.later (Jh (Below.refl _ _))
theorem Jcw {X Bs Bf:Nat} {sl:ByteArray->Int} {fl:Int×ByteArray->Int} {e x:Ex} {i:Nat} (hx:e.sub[i]?=some x) (ih:∀x∈e.sub,Jag X Bs Bf sl fl x) {bp be bc:Nat} {A:Option Addr} {cap:Nat} {ck:Int} {cs:ByteArray} {w0:World}
  (hh:Jge w0 bp be bc X A e.sub.length cap ck cs) (hp:Jb1 w0 X Bs Bf sl fl) (he:Jt w0 e A cap) (hc:okC (ck,cs)):Hid (∀w,Below w0.heap.size w0 w->
  Calls Tryz.prog 119 #[.int .i64 i,.pointer (some ⟨bp,0,none⟩),.pointer (some ⟨be,0,none⟩),.pointer (some ⟨bc,0,none⟩)] w (Jci w (x.gen sl fl (ck,cs)))):=
 Lib.hid fun w hb=>Jwz X Bs Bf sl fl e x i hx (ih x (List.mem_of_getElem? hx)) bp be bc A cap ck cs w (hh.later hb) (hp.later hb) (he.later hb) hc
section
variable (X Bs Bf:Nat) (sl:ByteArray->Int) (fl:Int×ByteArray->Int) (e:Ex)
theorem Jz9 (hk:e.kind=3) (aw:okS e.name):Jag X Bs Bf sl fl e:=by
 intro A cap ck cs w hp he hc;obtain⟨bI,aD⟩:=he.len;unfold maxLen at aD;have hv:e.gen sl fl (ck,cs) = [(2,sl e.name)]:=by rw [Ex.gen_eq];unfold Jae;simp [hk]
 rw [hv];have t3:(e.kind == 3)=true:=by simpa using hk
 have HP:=Lib.hid hp;unfold exV;clear hk hv hp he hc;have gZ:∀(fn:Fn) (first cap:Array Value) (w:World),(Instr.makeFunc fn first cap).run Tryz.prog w = .ok (.func fn first cap) w:=fun _ _ _ _=>rfl
 go_enter Tryz.func105,Tryz.ntmps105
 go_wp2_with fail
 refine Jo fun W0 ag=>?_;have ax:Below w.heap.size w W0:=by rw [ag];exact Jb
 have bD:W0.heap.size=w.heap.size+3:=by rw [ag];simp
 have p0:W0.cell? ⟨w.heap.size,0,none⟩=some (.pointer (some ⟨X,0,none⟩)):=by rw [ag];go_simp
 have e0:W0.cell? ⟨w.heap.size+1,0,none⟩=some (.int .i64 e.kind):=by rw [ag];go_simp
 have e1:W0.cell? ⟨w.heap.size+1,1,none⟩=some (.int .i32 e.n):=by rw [ag];go_simp
 have e2:W0.cell? ⟨w.heap.size+1,2,none⟩=some (.string e.name):=by rw [ag];go_simp
 have e3:W0.cell? ⟨w.heap.size+1,3,none⟩=some (.slice A e.sub.length cap):=by rw [ag];go_simp
 have k0:W0.cell? ⟨w.heap.size+2,0,none⟩=some (.int .i64 ck):=by rw [ag];go_simp
 have k1:W0.cell? ⟨w.heap.size+2,1,none⟩=some (.string cs):=by rw [ag];go_simp
 have jl:w.heap.size<W0.heap.size:=by omega
 have bV:w.heap.size+1<W0.heap.size:=by omega
 have gq:w.heap.size+2<W0.heap.size:=by omega
 have hz:w.heap.size<=W0.heap.size:=by omega
 clear ag gZ bD;have pp:=HP.out.later ax;obtain⟨c0,c2,⟨n,f,c,hm,hf⟩,_⟩:=pp;have hX:X<W0.heap.size:=block_lt_of_cell c0;have hlk:=Jcb (w:=W0.drew) (Jc2 Tryz.underlying9) (x:= .string e.name) Tryz.underlying204 Tryz.underlying21 (Jbp _) rfl hm.drew aw (hf _ aw);clear hm hf
 go_region_law (go_simp;go_wp2_with (go_at_call_of 103 (Value.int IntKind.i64 2);go_loud (refine(Jak _ _ _).mono ?_;rintro r w1 ⟨⟨rfl,ba⟩,ac⟩;have dN:=J3.one ba;have af:=ac.size;clear ba)))
 all_goals
  go_wp2_with fail
  go_ret;exact⟨⟨_,_,rfl,by simpa using dN⟩,ax.trans (Below.mono ((Jh (Below.refl _ _)).trans (ac.mono (by simp))) (by omega))⟩
theorem Jz6 (hk:e.kind=4) (hs:0<e.sub.length) (cE:e.size<=200000) (ih:∀x∈e.sub,Jag X Bs Bf sl fl x):Jag X Bs Bf sl fl e:=by
 intro A cap ck cs w hp he hc;obtain⟨bI,aD⟩:=he.len;unfold maxLen at aD;have hx:e.sub[0]?=some e.sub[0]:=List.getElem?_eq_getElem hs;generalize e.sub[0]=x at hx;have hw:K4 e.kind e.name (ck,cs) 0=(ck,cs):=by unfold K4;simp [hk]
 have hv:e.gen sl fl (ck,cs)=x.gen sl fl (ck,cs) ++ [(8,e.n)]:=by
  rw [Ex.gen_eq,Jae,if_neg (by omega),if_pos hk,Ex.genL_get sl fl e.kind e.name (ck,cs) e.sub 0 0 x hx,hw]
 have eS:=Ex.gen_len sl fl e (ck,cs);rw [hv] at eS ⊢;have t3:(e.kind == 3)=false:=by simp [hk]
 have t4:(e.kind == 4)=true:=by simpa using hk
 have HP:=Lib.hid hp;have HE:=Lib.hid he;have HX:=Lib.hid hx;have HC:=Lib.hid hc;unfold exV;have HG:=Lib.hid eS;clear hk hv hp he hc hw hx eS;have gZ:∀(fn:Fn) (first cap:Array Value) (w:World),(Instr.makeFunc fn first cap).run Tryz.prog w = .ok (.func fn first cap) w:=fun _ _ _ _=>rfl
 go_enter Tryz.func105,Tryz.ntmps105
 go_wp2_with fail
 refine Jo fun W0 ag=>?_;have ax:Below w.heap.size w W0:=by rw [ag];exact Jb
 have bD:W0.heap.size=w.heap.size+3:=by rw [ag];simp
 have p0:W0.cell? ⟨w.heap.size,0,none⟩=some (.pointer (some ⟨X,0,none⟩)):=by rw [ag];go_simp
 have e0:W0.cell? ⟨w.heap.size+1,0,none⟩=some (.int .i64 e.kind):=by rw [ag];go_simp
 have e1:W0.cell? ⟨w.heap.size+1,1,none⟩=some (.int .i32 e.n):=by rw [ag];go_simp
 have e2:W0.cell? ⟨w.heap.size+1,2,none⟩=some (.string e.name):=by rw [ag];go_simp
 have e3:W0.cell? ⟨w.heap.size+1,3,none⟩=some (.slice A e.sub.length cap):=by rw [ag];go_simp
 have k0:W0.cell? ⟨w.heap.size+2,0,none⟩=some (.int .i64 ck):=by rw [ag];go_simp
 have k1:W0.cell? ⟨w.heap.size+2,1,none⟩=some (.string cs):=by rw [ag];go_simp
 have jl:w.heap.size<W0.heap.size:=by omega
 have bV:w.heap.size+1<W0.heap.size:=by omega
 have gq:w.heap.size+2<W0.heap.size:=by omega
 have hz:w.heap.size<=W0.heap.size:=by omega
 clear ag gZ bD;have pp:=Jcw HX.out ih ⟨p0,e3,k0,k1⟩ (HP.out.later ax) (HE.out.later ax) HC.out
 have ay:=Lib.hid (fun(g:List (Int×Int)) (hg:g.length<=700000) (A1:Option Addr) (c1 g2:Nat) (W:World) (dN:J3 W g A1 c1) (dR:J3 W [(8,e.n)] (some ⟨g2,0,none⟩) 1) (t:TypeId)=>
  Jc0 [⟨g,A1,c1⟩,⟨[(8,e.n)],some ⟨g2,0,none⟩,1⟩] (some ⟨W.heap.size,0,none⟩) 2
   (W.alloc (.cells #[.slice A1 g.length c1,.slice (some ⟨g2,0,none⟩) 1 1] t))
   (Jan rfl fun x hx=>by
    simp only [List.mem_cons,List.not_mem_nil,or_false] at hx
    rcases hx with rfl|rfl
    ·exact dN
    ·exact dR)
   (by simp [Qu];omega) (by simp))
 have gK:(x.gen sl fl (ck,cs)).length<=700000:=by have:=HG.out;rw [List.length_append] at this;omega
 have gM:∀(A1:Option Addr) (c1 g2:Nat),Qu [⟨x.gen sl fl (ck,cs),A1,c1⟩,⟨[(8,e.n)],some ⟨g2,0,none⟩,1⟩]=x.gen sl fl (ck,cs) ++ [(8,e.n)]:=fun _ _ _=>by simp [Qu]
 have wL:=Lib.hid gM;clear gM;generalize x.gen sl fl (ck,cs)=g at *
 go_region_law (go_simp;go_wp2_with (first
  | (go_at_call_of 119 (Value.int IntKind.i64 0);go_loud (refine(pp.out _ Jb).mono ?_;rintro r w1 ⟨⟨A1,c1,rfl,dN⟩,ac⟩;have d1:=Ja ac (Zw e1);have af:=ac.size))
  | (go_at_call_of 103 (Value.int IntKind.i64 8);go_loud (refine(Jak _ _ _).mono ?_;rintro r w2 ⟨⟨rfl,ao⟩,aq⟩;have dR:=J3.one ao;have br:=aq.size;have d2:=Ja aq d1;clear ao))
  | (go_at_call 102;go_loud (refine(ay.out g gK _ _ _ w2 (dN.later aq) dR _).mono ?_;rw [wL.out];intro r w4 aZ;obtain⟨⟨A4,c4,rfl,gP⟩,ei⟩:=aZ.at.less (Jc (ax.trans (Below.mono (Below.trans (Jh (Below.refl _ _)) (Below.trans (ac.mono (by simp)) (aq.mono af))) (by first|omega|simpa using hz))) _);clear aZ))))
 all_goals
  go_wp2_with fail
  go_ret;exact⟨⟨A4,c4,by rw [List.length_append];rfl,gP⟩,ei⟩
end
section
variable (X Bs Bf:Nat) (sl:ByteArray->Int) (fl:Int×ByteArray->Int) (e:Ex)
theorem Jzz (hk:e.kind=5) (hs:1<e.sub.length) (cE:e.size<=200000) (ih:∀x∈e.sub,Jag X Bs Bf sl fl x):Jag X Bs Bf sl fl e:=by
 intro A cap ck cs w hp he hc;obtain⟨bI,aD⟩:=he.len;unfold maxLen at aD;have hx:e.sub[0]?=some (e.sub[0]'(by omega)):=List.getElem?_eq_getElem _;have hy:e.sub[1]?=some e.sub[1]:=List.getElem?_eq_getElem hs;generalize e.sub[0]'(by omega)=x at hx;generalize e.sub[1]=y at hy;have hw:∀i,K4 e.kind e.name (ck,cs) i=(ck,cs):=by intro i;unfold K4;simp [hk]
 have hv:e.gen sl fl (ck,cs)=x.gen sl fl (ck,cs) ++ y.gen sl fl (ck,cs) ++ [(9,e.n)]:=by
  rw [Ex.gen_eq,Jae,if_neg (by omega),if_neg (by omega),if_pos hk,Ex.genL_get sl fl e.kind e.name (ck,cs) e.sub 0 0 x hx,Ex.genL_get sl fl e.kind e.name (ck,cs) e.sub 0 1 y hy,hw,hw]
 have eS:=Ex.gen_len sl fl e (ck,cs);rw [hv] at eS ⊢;have t3:(e.kind == 3)=false:=by simp [hk]
 have t4:(e.kind == 4)=false:=by simp [hk]
 have t5:(e.kind == 5)=true:=by simpa using hk
 have HP:=Lib.hid hp;have HE:=Lib.hid he;have HX:=Lib.hid hx;have HY:=Lib.hid hy;have HC:=Lib.hid hc;unfold exV;have HG:=Lib.hid eS;clear hk hv hp he hc hw hx hy eS;have gZ:∀(fn:Fn) (first cap:Array Value) (w:World),(Instr.makeFunc fn first cap).run Tryz.prog w = .ok (.func fn first cap) w:=fun _ _ _ _=>rfl
 go_enter Tryz.func105,Tryz.ntmps105
 go_wp2_with fail
 refine Jo fun W0 ag=>?_;have ax:Below w.heap.size w W0:=by rw [ag];exact Jb
 have bD:W0.heap.size=w.heap.size+3:=by rw [ag];simp
 have p0:W0.cell? ⟨w.heap.size,0,none⟩=some (.pointer (some ⟨X,0,none⟩)):=by rw [ag];go_simp
 have e0:W0.cell? ⟨w.heap.size+1,0,none⟩=some (.int .i64 e.kind):=by rw [ag];go_simp
 have e1:W0.cell? ⟨w.heap.size+1,1,none⟩=some (.int .i32 e.n):=by rw [ag];go_simp
 have e2:W0.cell? ⟨w.heap.size+1,2,none⟩=some (.string e.name):=by rw [ag];go_simp
 have e3:W0.cell? ⟨w.heap.size+1,3,none⟩=some (.slice A e.sub.length cap):=by rw [ag];go_simp
 have k0:W0.cell? ⟨w.heap.size+2,0,none⟩=some (.int .i64 ck):=by rw [ag];go_simp
 have k1:W0.cell? ⟨w.heap.size+2,1,none⟩=some (.string cs):=by rw [ag];go_simp
 have jl:w.heap.size<W0.heap.size:=by omega
 have bV:w.heap.size+1<W0.heap.size:=by omega
 have gq:w.heap.size+2<W0.heap.size:=by omega
 have hz:w.heap.size<=W0.heap.size:=by omega
 clear ag gZ bD;have pp:=Jcw HX.out ih ⟨p0,e3,k0,k1⟩ (HP.out.later ax) (HE.out.later ax) HC.out;have ii:=Jcw HY.out ih ⟨p0,e3,k0,k1⟩ (HP.out.later ax) (HE.out.later ax) HC.out;have gK:(x.gen sl fl (ck,cs)).length+(y.gen sl fl (ck,cs)).length<=700000:=by have:=HG.out;rw [List.length_append,List.length_append] at this;omega
 generalize x.gen sl fl (ck,cs)=g at *;generalize y.gen sl fl (ck,cs)=h at *
 have ay:=Lib.hid (fun(A1:Option Addr) (c1:Nat) (A2:Option Addr) (c2 g2:Nat) (W:World) (dN:J3 W g A1 c1) (dR:J3 W h A2 c2) (iI:J3 W [(9,e.n)] (some ⟨g2,0,none⟩) 1) (t:TypeId)=>
  Jc0 [⟨g,A1,c1⟩,⟨h,A2,c2⟩,⟨[(9,e.n)],some ⟨g2,0,none⟩,1⟩] (some ⟨W.heap.size,0,none⟩) 3
   (W.alloc (.cells #[.slice A1 g.length c1,.slice A2 h.length c2,.slice (some ⟨g2,0,none⟩) 1 1] t))
   (Jan rfl fun x hx=>by
    simp only [List.mem_cons,List.not_mem_nil,or_false] at hx
    rcases hx with rfl|rfl|rfl
    ·exact dN
    ·exact dR
    ·exact iI)
   (by simp [Qu];omega) (by simp))
 have gM:∀(A1:Option Addr) (c1:Nat) (A2:Option Addr) (c2 g2:Nat),Qu [⟨g,A1,c1⟩,⟨h,A2,c2⟩,⟨[(9,e.n)],some ⟨g2,0,none⟩,1⟩]=g ++ h ++ [(9,e.n)]:=fun _ _ _ _ _=>by simp [Qu]
 have wL:=Lib.hid gM;clear gM
 go_region_law (go_simp;go_wp2_with (first
  | (go_at_call_of 119 (Value.int IntKind.i64 0);go_loud (refine(pp.out _ Jb).mono ?_;rintro r w1 ⟨⟨A1,c1,rfl,dN⟩,ac⟩;have d1:=Ja ac (Zw e1);have af:=ac.size;have cT:Below W0.heap.size W0 w1:=(Jh (Below.refl _ _)).trans (ac.mono (by simp))))
  | (go_at_call_of 119 (Value.int IntKind.i64 1);go_loud (refine(ii.out _ cT).mono ?_;rintro r w2 ⟨⟨A2,c2,rfl,dR⟩,aq⟩;have d2:=Ja aq d1;have br:=aq.size;have cF:=cT.trans (aq.mono cT.size)))
  | (go_at_call_of 103 (Value.int IntKind.i64 9);go_loud (refine(Jak _ _ _).mono ?_;rintro r w3 ⟨⟨rfl,aE⟩,aM⟩;have iI:=J3.one aE;have fe:=aM.size;have d3:=Ja aM d2;have cZ:=cF.trans (aM.mono cF.size);clear aE))
  | (go_at_call 102;go_loud (refine(ay.out _ _ _ _ _ w3 ((dN.later aq).later aM) (dR.later aM) iI _).mono ?_;rw [wL.out];intro r w4 aZ;obtain⟨⟨A4,c4,rfl,gP⟩,ei⟩:=aZ.at.less (Jc (ax.trans (cZ.mono ax.size)) _);clear aZ))))
 all_goals
  go_wp2_with fail
  go_ret;exact⟨⟨A4,c4,by rw [List.length_append,List.length_append];rfl,gP⟩,ei⟩
theorem Jz0 (hk:e.kind≠3/\e.kind≠4/\e.kind≠5/\e.kind≠6/\e.kind≠7/\e.kind≠8/\e.kind≠9/\e.kind≠10):Jag X Bs Bf sl fl e:=by
 intro A cap ck cs w hp he hc;obtain⟨bI,aD⟩:=he.len;unfold maxLen at aD;obtain⟨h3,h4,h5,h6,h7,h8,h9,bM⟩:=hk;have hv:e.gen sl fl (ck,cs) = [(1,e.n)]:=by rw [Ex.gen_eq];unfold Jae;simp [*]
 rw [hv];have t3:(e.kind == 3)=false:=by simpa using h3
 have t4:(e.kind == 4)=false:=by simpa using h4
 have t5:(e.kind == 5)=false:=by simpa using h5
 have t6:(e.kind == 6)=false:=by simpa using h6
 have t7:(e.kind == 7)=false:=by simpa using h7
 have t8:(e.kind == 8)=false:=by simpa using h8
 have t9:(e.kind == 9)=false:=by simpa using h9
 have t10:(e.kind == 10)=false:=by simpa using bM
 unfold exV;clear h3 h4 h5 h6 h7 h8 h9 bM hv hp he hc;have gZ:∀(fn:Fn) (first cap:Array Value) (w:World),(Instr.makeFunc fn first cap).run Tryz.prog w = .ok (.func fn first cap) w:=fun _ _ _ _=>rfl
 go_enter Tryz.func105,Tryz.ntmps105
 go_wp2_with (go_at_call_of 103 (Value.int IntKind.i64 1);go_loud (refine(Jak _ _ _).mono ?_;rintro r w1 ⟨⟨rfl,ba⟩,ac⟩;have dN:=J3.one ba;have af:=ac.size;clear ba))
 go_ret;exact⟨⟨_,_,rfl,by simpa using dN⟩,Jb⟩
end
end Go.Proofs.YtdgjplldlfeolaaGreatDoor
namespace Go.Proofs.YtdgjplldlfeolaaGreatDoor
open Go.RowKit
structure Juk (v:Va):Prop where
 name:v.name.size<=16
 ne:v.name.toList.isEmpty=false
 cn:v.cn.size<=16
 ck:v.ck=0\/v.ck=1\/v.ck=2
structure Jtw (q:Qe):Prop where
 name:q.name.size<=16
 ne:q.name.toList.isEmpty=false
 right:q.e.right=0
 formed:q.e.formed=true
 size:q.e.size<=120
 depth:q.e.depth<=12
 first:q.first.kind=4->∃x r,q.first.sub=x :: r
 delay:q.delay=0\/q.delay=1\/q.delay=2
 pre:q.delay=2->Jai q.first=0
structure Jay (p:Pr):Prop where
 order:(J1 p).2=(0,0,0)
 clk:Qg p=(0,0,0)
 chk:J7 p=(0,0,0)
 whole:Qw p=true
 dist:Jb4 (Je p)
 nodup:((Je p).map (·.name)).Nodup
 small:p.ins.length<=8/\p.outs.length<=8/\(Je p).length<=24/\p.eqs.length<=24
 vars:∀v∈Je p,Juk v
 eqs:∀q∈p.eqs,Jtw q
 vof:∀q∈p.eqs,∃v∈Je p,v.name=q.name/\J9 (Je p) q.name=(v.ck,v.cn)
theorem Jeb {v:Va} {b:Bool} (h:Ke v b=true):Juk v:=by
 simp only [Ke,Bool.and_eq_true] at h;have h3:=h.2;have h1:=h.1.1;refine⟨Jaf h1,Jbx h1,?_,?_⟩
 ·by_cases h0:v.ck=0
  ·rw [if_pos h0] at h3;exact Jgu (.inr h3)
  ·rw [if_neg h0] at h3
   by_cases h4:v.ck=1\/v.ck=2
   ·rw [if_pos h4,Bool.and_eq_true] at h3;exact Jaf h3.2
   ·rw [if_neg h4] at h3;simp at h3
 ·by_cases h0:v.ck=0
  ·exact .inl h0
  ·rw [if_neg h0] at h3
   by_cases h4:v.ck=1\/v.ck=2
   ·exact .inr h4
   ·rw [if_neg h4] at h3;simp at h3
theorem Jn2 {e:Ex} (h:e.literal=true) (hk:e.kind=4):∃x r,e.sub=x :: r:=by
 unfold Ex.literal at h
 split at h
 ·split at h
  ·cases hs:e.sub with
   | nil=>rw [hs] at h;simp at h
   | cons x r=>exact⟨x,r,rfl⟩
  ·rw [hk] at h;simp at h
 ·simp at h
theorem Jns {e:Ex} (h:e.same Ex.zero=true):e.kind=0/\e.n=0:=by
 rw [Ex.same_eq] at h;simp only [Bool.and_eq_true,beq_iff_eq] at h;exact⟨h.1.1.1.1,h.1.1.1.2⟩
theorem Jv0 {q:Qe} (h:eqB q=true):Jtw q:=by
 simp only [eqB,Bool.and_eq_true,beq_iff_eq] at h;obtain⟨⟨h1,h2⟩,h3⟩:=h;obtain⟨r1,r2,r3⟩:=Ex.right_zero.1 h2;have cE:=Ex.count_size q.e 121 (by omega);refine⟨Jaf h1,Jbx h1,h2,r3,by omega,r2,fun hk=>?_,?_,fun hd=>?_⟩
 ·by_cases d1:q.delay=1
  ·rw [if_pos d1] at h3;exact Jn2 h3 hk
  ·rw [if_neg d1] at h3
   split at h3
   ·have:=(Jns h3).1;rw [hk] at this;exact absurd this (by decide)
   ·cases h3
 ·by_cases d1:q.delay=1
  ·exact .inr (.inl d1)
  ·rw [if_neg d1] at h3
   split at h3
   ·rename_i hd;rcases hd with hd|hd
    ·exact .inl hd
    ·exact .inr (.inr hd)
   ·cases h3
 ·rw [if_neg (by omega),if_pos (.inr hd)] at h3;obtain⟨h4,h5⟩:=Jns h3;unfold Jai;rw [if_neg (by omega),h5]
theorem Jp3 {α:Type} : ∀(l m:List α),l.Nodup->(∀x∈l,x∈m)->l.length<=m.length
 | [],m,_,_=>by simp
 | x :: l,m,h,hs=>by
  obtain⟨a,b,hm⟩:=List.append_of_mem (hs x (by simp));have hn:=List.nodup_cons.1 h
  have:=Jp3 l (a ++ b) hn.2 fun y hy=>by
   have h1:=hs y (by simp [hy]);rw [hm] at h1;have aS:y≠x:=fun he=>hn.1 (he ▸ hy)
   rcases List.mem_append.1 h1 with h2|h2
   ·exact List.mem_append.2 (.inl h2)
   ·rcases List.mem_cons.1 h2 with h3|h3
    ·exact absurd h3 aS
    ·exact List.mem_append.2 (.inr h3)
  rw [hm];simp only [List.length_append,List.length_cons] at this ⊢;omega
theorem Jgp:∀ {L:List Va},Jb4 L->(L.map (·.name)).Nodup
 | [],_=>by simp
 | v :: L,h=>by
  obtain⟨h1,h2⟩:=h.tail;rw [List.map_cons,List.nodup_cons];refine⟨fun hm=>?_,Jgp h1⟩;obtain⟨u,hu,hn⟩:=List.mem_map.1 hm;exact h2 u hu hn
theorem Jsv {l:List Qe} (h:l.Pairwise (fun a b=>a.name≠b.name)):(l.map (·.name)).Nodup:=by
 unfold List.Nodup;rw [List.pairwise_map];exact h
theorem Jvz {p:Pr} (h:J7 p=(0,0,0)):p.ins.length<=8/\p.outs.length<=8/\(Je p).length<=24:=by
 unfold J7 at h
 split at h
 ·rename_i h1;rw [Prod.mk.injEq,Prod.mk.injEq] at h;omega
 ·split at h
  ·rw [Prod.mk.injEq,Prod.mk.injEq] at h;omega
  ·omega
theorem Jff {p:Pr} (h:Ks p=(0,0,0)):Jay p:=by
 have hO:=(Jsu h).1;have aN:=(Yg hO).1;have hc:=(Xk aN).1;obtain⟨jn,gG,_⟩:=Xp hc;have kD:=jn;simp only [Qw,Bool.and_eq_true,List.all_eq_true] at kD;obtain⟨ci,_,_⟩:=Jbe hc
 have xr:∀q∈p.eqs,∃v∈Je p,v.name=q.name/\J9 (Je p) q.name=(v.ck,v.cn):=fun q hq=>by
  obtain⟨v,hm,_,hn,bO,_⟩:=Ja3 aN hq;exact⟨v,hm,hn,bO⟩
 have jN:=Jvz hc
 have nn:p.eqs.length<=(Je p).length:=by
  have:=Jp3 (p.eqs.map (·.name)) ((Je p).map (·.name)) (Jsv ci) fun s hs=>by
   obtain⟨q,hq,rfl⟩:=List.mem_map.1 hs;obtain⟨v,hv,hn,_⟩:=xr q hq;exact List.mem_map.2 ⟨v,hv,hn⟩
  simpa using this
 refine⟨hO,aN,hc,jn,gG,Jgp gG,⟨jN.1,jN.2.1,jN.2.2,by omega⟩,fun v hv=>?_,fun q hq=>Jv0 (kD.2 q hq),xr⟩;simp only [Je,List.mem_append] at hv
 rcases hv with (hv|hv)|hv
 ·exact Jeb (kD.1.1.1.2 v hv)
 ·exact Jeb (kD.1.1.2 v hv)
 ·exact Jeb (kD.1.2 v hv)
theorem Jay.clock {p:Pr} (h:Jay p) {q:Qe} (hq:q∈p.eqs):(J9 (Je p) q.name).2.size<=16/\((J9 (Je p) q.name).1=0\/(J9 (Je p) q.name).1=1\/(J9 (Je p) q.name).1=2):=by
 obtain⟨v,hv,_,bO⟩:=h.vof q hq;rw [bO];exact⟨(h.vars v hv).cn,(h.vars v hv).ck⟩
theorem Z4 {l:List Qe} {q:Qe} (h:q∈J0 l):q∈l/\q.delay≠0:=by
 unfold J0 at h;rw [List.mem_filter] at h;exact⟨h.1,by simpa using h.2⟩
theorem Ja4 (l:List Qe):(J0 l).length<=l.length:=List.length_filter_le _ _
theorem Joj (L:List Va):(X3 L).length=1+2 * L.length:=by
 unfold X3;rw [List.length_cons]
 induction L with
 | nil=>simp
 | cons v L ih=>rw [List.flatMap_cons,List.length_append,List.length_cons,List.length_cons,List.length_cons];simp only [List.length_nil];omega
theorem Jj0 (m l:List (Int×ByteArray)):(Kaq m l).length<=l.length:=by
 unfold Kaq;rw [List.length_map];exact List.length_filter_le _ _
theorem Jxu {p:Pr} (h:Jay p) {c:Int×ByteArray} (hc:c∈X3 (Je p)):(c.1=0\/c.1=1\/c.1=2)/\c.2.size<=16:=by
 unfold X3 at hc
 rcases List.mem_cons.1 hc with rfl|hc
 ·exact⟨.inl rfl,by show 0<=16;omega⟩
 ·obtain⟨v,hv,h2⟩:=Jfn.1 hc
  rcases h2 with rfl|rfl
  ·exact⟨.inr (.inl rfl),(h.vars v hv).name⟩
  ·exact⟨.inr (.inr rfl),(h.vars v hv).name⟩
theorem Jay.cells {p:Pr} (h:Jay p) {c:Ce} (hc:c∈Jq p):(c.ck=0\/c.ck=1\/c.ck=2)/\c.cn.size<=16/\c.name.size<=16:=by
 unfold Jq at hc
 rcases List.mem_append.1 hc with hc|hc
 ·obtain⟨q,hq,rfl⟩:=List.mem_map.1 hc;have je:=(Z4 hq).1;have:=h.clock je;exact⟨this.2,this.1,(h.eqs q je).name⟩
 ·unfold Kaq at hc;obtain⟨d,hd,rfl⟩:=List.mem_map.1 hc;have:=Jxu h (List.mem_filter.1 hd).1;exact⟨this.1,this.2,by show 0<=16;omega⟩
theorem Jay.flags {p:Pr} (h:Jay p):Jha (Jq p):=Jo1 h.dist fun q hq=>(h.eqs q hq).ne
theorem Jay.codes {p:Pr} (h:Jay p) (q:Qe) (hq:q∈p.eqs) (sl:ByteArray->Int) (fl:Int×ByteArray->Int) (c:Int×ByteArray):(q.e.gen sl fl c).length<=360:=by
 have:=Ex.gen_len sl fl q.e c;have:=(h.eqs q hq).size;omega
end Go.Proofs.YtdgjplldlfeolaaGreatDoor
