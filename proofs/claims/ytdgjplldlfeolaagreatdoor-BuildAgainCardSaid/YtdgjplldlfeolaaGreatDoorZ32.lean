/- Lemmas. -/
import Derived.Test.YtdgjplldlfeolaaGreatDoorZ30
import Derived.Test.YtdgjplldlfeolaaGreatDoorZ01
set_option linter.unusedVariables false
set_option linter.unusedSimpArgs false
set_option maxRecDepth 100000
set_option maxHeartbeats 64000000
namespace Go.Proofs.YtdgjplldlfeolaaGreatDoor
open Go.RowKit Go.Sort Go.Maps
theorem Jkh (w:World) (X:Nat) (v0 v1 v2:Value) (A:Option Addr) (len cap:Nat) (ck:Int) (cs:ByteArray) (t1 t2 t3:TypeId):Jge (((w.alloc (.cells #[.pointer (some ⟨X,0,none⟩)] t1)).alloc (.cells #[v0,v1,v2,.slice A len cap] t2)).alloc (.cells #[.int .i64 ck,.string cs] t3)) w.heap.size (w.heap.size+1) (w.heap.size+1+1) X A len cap ck cs:=
 ⟨by go_simp,by go_simp,by go_simp,by go_simp⟩
section
variable (X Bs Bf:Nat) (sl:ByteArray->Int) (fl:Int×ByteArray->Int) (e:Ex)
theorem Kae (hk:e.kind=6) (hs:2<e.sub.length) (cE:e.size<=200000) (ih:∀x∈e.sub,Jag X Bs Bf sl fl x):Jag X Bs Bf sl fl e:=by
 intro A cap ck cs w hp he hc;obtain⟨bI,aD⟩:=he.len;unfold maxLen at aD;have hx:e.sub[0]?=some (e.sub[0]'(by omega)):=List.getElem?_eq_getElem _;have hy:e.sub[1]?=some (e.sub[1]'(by omega)):=List.getElem?_eq_getElem _;have hz:e.sub[2]?=some e.sub[2]:=List.getElem?_eq_getElem hs;generalize e.sub[0]'(by omega)=x at hx;generalize e.sub[1]'(by omega)=y at hy;generalize e.sub[2]=z at hz;have hw:∀i,K4 e.kind e.name (ck,cs) i=(ck,cs):=by intro i;unfold K4;simp [hk]
 have hv:e.gen sl fl (ck,cs)=Yv (x.gen sl fl (ck,cs)) (y.gen sl fl (ck,cs)) (z.gen sl fl (ck,cs)):=by
  rw [Ex.gen_eq,Jae,if_neg (by omega),if_neg (by omega),if_neg (by omega),if_pos hk,Ex.genL_get sl fl e.kind e.name (ck,cs) e.sub 0 0 x hx,Ex.genL_get sl fl e.kind e.name (ck,cs) e.sub 0 1 y hy,Ex.genL_get sl fl e.kind e.name (ck,cs) e.sub 0 2 z hz,hw,hw,hw]
 have eS:=Ex.gen_len sl fl e (ck,cs);rw [hv] at eS ⊢;rw [Ex.choice_len] at eS;have t3:(e.kind == 3)=false:=by simp [hk]
 have t4:(e.kind == 4)=false:=by simp [hk]
 have t5:(e.kind == 5)=false:=by simp [hk]
 have t6:(e.kind == 6)=true:=by simpa using hk
 have sG:∀(o1 o2 o3:Obj),Below w.heap.size w (((w.alloc o1).alloc o2).alloc o3):=fun _ _ _=>Jc (Jc (Jc (Below.refl _ _) _) _) _;have pp:=Jcw hx ih (Jkh w X (.int .i64 e.kind) (.int .i32 e.n) (.string e.name) A e.sub.length cap ck cs 200 73 81) (hp.later (sG _ _ _)) (he.later (sG _ _ _)) hc;have ii:=Jcw hy ih (Jkh w X (.int .i64 e.kind) (.int .i32 e.n) (.string e.name) A e.sub.length cap ck cs 200 73 81) (hp.later (sG _ _ _)) (he.later (sG _ _ _)) hc;have gL:=Jcw hz ih (Jkh w X (.int .i64 e.kind) (.int .i32 e.n) (.string e.name) A e.sub.length cap ck cs 200 73 81) (hp.later (sG _ _ _)) (he.later (sG _ _ _)) hc;unfold exV;clear hk hv hp he hc hw hx hy hz;have gZ:∀(fn:Fn) (first cap:Array Value) (w:World),(Instr.makeFunc fn first cap).run Tryz.prog w = .ok (.func fn first cap) w:=fun _ _ _ _=>rfl;have gK:(x.gen sl fl (ck,cs)).length+(y.gen sl fl (ck,cs)).length+(z.gen sl fl (ck,cs)).length<=700000:=by omega
 clear eS;generalize x.gen sl fl (ck,cs)=g at *;generalize y.gen sl fl (ck,cs)=h at *;generalize z.gen sl fl (ck,cs)=k at *
 go_enter Tryz.func105,Tryz.ntmps105
 go_wp2_with (first
  | (go_at_call_of 119 (Value.int IntKind.i64 0);go_loud (refine(pp.out _ (Below.refl _ _)).mono ?_;rintro r w1 ⟨⟨A1,c1,rfl,dN⟩,ac⟩;have af:=ac.size))
  | (go_at_call_of 119 (Value.int IntKind.i64 1);go_loud (refine(ii.out _ ac).mono ?_;rintro r w2 ⟨⟨A2,c2,rfl,dR⟩,aq⟩;have br:=aq.size;have cF:=ac.trans (aq.mono af)))
  | (go_at_call_of 119 (Value.int IntKind.i64 2);go_loud (refine(gL.out _ cF).mono ?_;rintro r w3 ⟨⟨A3,c3,rfl,iI⟩,aM⟩;have fe:=aM.size;have cZ:=(sG _ _ _).trans (Below.mono (cF.trans (aM.mono cF.size)) (sG _ _ _).size)))
  | (go_at_call 120;go_loud (refine(Jg5 g h k _ _ _ _ _ _ w3 ((dN.later aq).later aM) (dR.later aM) iI (by omega)).mono ?_;intro r w4 aZ;obtain⟨⟨A4,c4,rfl,gP⟩,ei⟩:=aZ.at.less cZ;clear aZ)))
 go_ret;exact⟨⟨A4,c4,rfl,gP⟩,ei⟩
theorem Jz5 (hk:e.kind=7) (hs:1<e.sub.length) (cE:e.size<=200000) (ih:∀x∈e.sub,Jag X Bs Bf sl fl x):Jag X Bs Bf sl fl e:=by
 intro A cap ck cs w hp he hc;obtain⟨bI,aD⟩:=he.len;unfold maxLen at aD;have hx:e.sub[0]?=some (e.sub[0]'(by omega)):=List.getElem?_eq_getElem _;have hy:e.sub[1]?=some e.sub[1]:=List.getElem?_eq_getElem hs;generalize e.sub[0]'(by omega)=x at hx;generalize e.sub[1]=y at hy;have hw:∀i,K4 e.kind e.name (ck,cs) i=(ck,cs):=by intro i;unfold K4;simp [hk]
 have hv:e.gen sl fl (ck,cs)=Yv [(4,fl (ck,cs))] (y.gen sl fl (ck,cs)) (x.gen sl fl (ck,cs)):=by
  rw [Ex.gen_eq,Jae,if_neg (by omega),if_neg (by omega),if_neg (by omega),if_neg (by omega),if_pos hk,Ex.genL_get sl fl e.kind e.name (ck,cs) e.sub 0 0 x hx,Ex.genL_get sl fl e.kind e.name (ck,cs) e.sub 0 1 y hy,hw,hw]
 have eS:=Ex.gen_len sl fl e (ck,cs);rw [hv] at eS ⊢;rw [Ex.choice_len] at eS;have t3:(e.kind == 3)=false:=by simp [hk]
 have t4:(e.kind == 4)=false:=by simp [hk]
 have t5:(e.kind == 5)=false:=by simp [hk]
 have t6:(e.kind == 6)=false:=by simp [hk]
 have t7:(e.kind == 7)=true:=by simpa using hk
 have HP:=Lib.hid hp;have HE:=Lib.hid he;have HX:=Lib.hid hx;have HY:=Lib.hid hy;have HC:=Lib.hid hc;unfold exV;have HG:=Lib.hid eS;clear hk hv hp he hc hw hx hy eS;have gZ:∀(fn:Fn) (first cap:Array Value) (w:World),(Instr.makeFunc fn first cap).run Tryz.prog w = .ok (.func fn first cap) w:=fun _ _ _ _=>rfl
 go_enter Tryz.func105,Tryz.ntmps105
 go_wp2_with fail
 refine Jo fun W0 ag=>?_;have ax:Below w.heap.size w W0:=by rw [ag];exact Jb
 have bD:W0.heap.size=w.heap.size+3:=by rw [ag];simp
 have p0:W0.cell? ⟨w.heap.size,0,none⟩=some (.pointer (some ⟨X,0,none⟩)):=by rw [ag];go_simp
 have e0:W0.cell? ⟨w.heap.size+1,0,none⟩=some (.int .i64 e.kind):=by rw [ag];go_simp
 have e1:W0.cell? ⟨w.heap.size+1,1,none⟩=some (.int .i32 e.n):=by rw [ag];go_simp
 have e2:W0.cell? ⟨w.heap.size+1,2,none⟩=some (.string e.name):=by rw [ag];go_simp
 have e3:W0.cell? ⟨w.heap.size+1,3,none⟩=some (.slice A e.sub.length cap):=by rw [ag];go_simp
 have k0:W0.cell? ⟨w.heap.size+2,0,none⟩=some (.int .i64 ck):=by rw [ag];go_simp
 have k1:W0.cell? ⟨w.heap.size+2,1,none⟩=some (.string cs):=by rw [ag];go_simp
 have jl:w.heap.size<W0.heap.size:=by omega
 have bV:w.heap.size+1<W0.heap.size:=by omega
 have gq:w.heap.size+2<W0.heap.size:=by omega
 have hz:w.heap.size<=W0.heap.size:=by omega
 clear ag gZ bD;have pp:=Jcw HX.out ih ⟨p0,e3,k0,k1⟩ (HP.out.later ax) (HE.out.later ax) HC.out;have ii:=Jcw HY.out ih ⟨p0,e3,k0,k1⟩ (HP.out.later ax) (HE.out.later ax) HC.out;have gK:(x.gen sl fl (ck,cs)).length+(y.gen sl fl (ck,cs)).length<=700000:=by have:=HG.out;omega
 generalize x.gen sl fl (ck,cs)=g at *;generalize y.gen sl fl (ck,cs)=h at *;have dS:=HP.out.later ax;obtain⟨c0,c2,_,⟨n,f,c,hm,hf⟩⟩:=dS;have hX:X<W0.heap.size:=block_lt_of_cell c0;have hlk:=Jcb (w:=W0.drew) (Jl0) (x:= .agg #[.int .i64 ck,.string cs]) Tryz.underlying206 Tryz.underlying21 (Jbp _) rfl hm.drew HC.out (hf _ HC.out);clear hm hf
 go_region_law (go_simp;go_wp2_with (first
  | (go_at_call_of 103 (Value.int IntKind.i64 4);go_loud (refine(Jak _ _ _).mono ?_;rintro r w1 ⟨⟨rfl,ba⟩,ac⟩;have dN:=J3.one ba;have af:=ac.size;have cT:Below W0.heap.size W0 w1:=(Jh (Below.refl _ _)).trans (ac.mono (by simp));clear ba))
  | (go_at_call_of 119 (Value.int IntKind.i64 1);go_loud (refine(ii.out _ cT).mono ?_;rintro r w2 ⟨⟨A2,c2',rfl,dR⟩,aq⟩;have br:=aq.size;have cF:=cT.trans (aq.mono cT.size)))
  | (go_at_call_of 119 (Value.int IntKind.i64 0);go_loud (refine(pp.out _ cF).mono ?_;rintro r w3 ⟨⟨A3,c3',rfl,iI⟩,aM⟩;have fe:=aM.size;have cZ:=cF.trans (aM.mono cF.size)))
  | (go_at_call 120;go_loud (refine(Jg5 [(4,fl (ck,cs))] h g _ _ _ _ _ _ w3 ((dN.later aq).later aM) (dR.later aM) iI (by simp;omega)).mono ?_;intro r w4 aZ;obtain⟨⟨A4,c4,rfl,gP⟩,ei⟩:=aZ.at.less (ax.trans (cZ.mono ax.size));clear aZ))))
 all_goals
  go_wp2_with fail
  go_ret;exact⟨⟨A4,c4,rfl,gP⟩,ei⟩
end
section
variable (X Bs Bf:Nat) (sl:ByteArray->Int) (fl:Int×ByteArray->Int) (e:Ex)
theorem Ju0 (hk:e.kind=8\/e.kind=9) (hs:0<e.sub.length) (ih:∀x∈e.sub,Jag X Bs Bf sl fl x):Jag X Bs Bf sl fl e:=by
 intro A cap ck cs w hp he hc;obtain⟨bI,aD⟩:=he.len;unfold maxLen at aD;have hx:e.sub[0]?=some e.sub[0]:=List.getElem?_eq_getElem hs;generalize e.sub[0]=x at hx;have sF:=ih x (List.mem_of_getElem? hx)
 have hw:K4 e.kind e.name (ck,cs) 0=(0,⟨#[]⟩):=by
  unfold K4;rw [if_neg (by omega),if_pos (by omega)]
 have hv:e.gen sl fl (ck,cs)=x.gen sl fl (0,⟨#[]⟩):=by
  rw [Ex.gen_eq,Jae,if_neg (by omega),if_neg (by omega),if_neg (by omega),if_neg (by omega),if_neg (by omega),if_pos hk,Ex.genL_get sl fl e.kind e.name (ck,cs) e.sub 0 0 x hx,hw]
 rw [hv];have t3:(e.kind == 3)=false:=by simp;omega
 have t4:(e.kind == 4)=false:=by simp;omega
 have t5:(e.kind == 5)=false:=by simp;omega
 have t6:(e.kind == 6)=false:=by simp;omega
 have t7:(e.kind == 7)=false:=by simp;omega
 have t89:(e.kind == 8)=true\/(e.kind == 8)=false/\(e.kind == 9)=true:=by
  rcases hk with h|h
  ·exact .inl (by simp [h])
  ·exact .inr ⟨by simp [h],by simp [h]⟩
 have HP:=Lib.hid hp;have HE:=Lib.hid he;have HX:=Lib.hid hx;clear hk hv hp he hc hw hx ih
 rcases t89 with t8|⟨t8,t9⟩
 all_goals
  unfold exV;have gZ:∀(fn:Fn) (first cap:Array Value) (w:World),(Instr.makeFunc fn first cap).run Tryz.prog w = .ok (.func fn first cap) w:=fun _ _ _ _=>rfl
  go_enter Tryz.func105,Tryz.ntmps105
  go_wp2_with fail
  refine Jo fun W0 ag=>?_;have ax:Below w.heap.size w W0:=by rw [ag];exact Jb
  have bD:W0.heap.size=w.heap.size+3:=by rw [ag];simp
  have p0:W0.cell? ⟨w.heap.size,0,none⟩=some (.pointer (some ⟨X,0,none⟩)):=by rw [ag];go_simp
  have e0:W0.cell? ⟨w.heap.size+1,0,none⟩=some (.int .i64 e.kind):=by rw [ag];go_simp
  have e1:W0.cell? ⟨w.heap.size+1,1,none⟩=some (.int .i32 e.n):=by rw [ag];go_simp
  have e2:W0.cell? ⟨w.heap.size+1,2,none⟩=some (.string e.name):=by rw [ag];go_simp
  have e3:W0.cell? ⟨w.heap.size+1,3,none⟩=some (.slice A e.sub.length cap):=by rw [ag];go_simp
  have k0:W0.cell? ⟨w.heap.size+2,0,none⟩=some (.int .i64 ck):=by rw [ag];go_simp
  have k1:W0.cell? ⟨w.heap.size+2,1,none⟩=some (.string cs):=by rw [ag];go_simp
  have jl:w.heap.size<W0.heap.size:=by omega
  have bV:w.heap.size+1<W0.heap.size:=by omega
  have gq:w.heap.size+2<W0.heap.size:=by omega
  have hz:w.heap.size<=W0.heap.size:=by omega
  clear ag gZ bD;obtain⟨b,off,A',cap',hA,c0,c1,c2,c3,bd⟩:=(HE.out.later ax).get HX.out;subst hA;simp only [Nat.zero_mul,Nat.add_zero] at c0 c1 c2 c3;have aH:=block_lt_of_cell c0;have az:=sF A' cap' 0 ⟨#[]⟩ W0.drew (HP.out.later ax).drew (bd.later (Jh (Below.refl _ _))) ⟨by unfold I64;omega,by decide⟩;unfold exV at az;have HCA:=Lib.hid az;clear az bd
  go_region_law (go_simp;go_wp2_with (go_at_call 105;go_loud (refine HCA.out.mono ?_;rintro r w1 ⟨⟨A1,c1',rfl,dN⟩,ac⟩)))
  all_goals
   go_wp2_with fail
   go_ret;exact⟨⟨_,_,rfl,dN⟩,ax.trans (Below.mono ((Jh (Below.refl _ _)).trans (ac.mono (by simp))) hz)⟩
end
end Go.Proofs.YtdgjplldlfeolaaGreatDoor
