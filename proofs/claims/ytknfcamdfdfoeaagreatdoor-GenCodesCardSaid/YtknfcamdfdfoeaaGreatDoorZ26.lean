/- Lemmas. -/
import Derived.Test.YtknfcamdfdfoeaaGreatDoorMac
import Derived.Test.YtknfcamdfdfoeaaGreatDoorZ25
set_option linter.unusedVariables false
set_option linter.unusedSimpArgs false
set_option maxRecDepth 100000
set_option maxHeartbeats 64000000
namespace Go.Proofs.YtknfcamdfdfoeaaGreatDoor
open Go.RowKit Go.Sort
theorem Jzy (l:List Va) (A:Option Addr) (cap:Nat) (e:Ex) (ih:∀x∈e.sub,Jcr l A cap x) (Ae:Option Addr) (ce:Nat) (w:World) (he:Jt w e Ae ce) (hl:Ju w l A cap) (h3:e.sub.length<=3) (hk:e.kind=4) (aL:e.name.toList.isEmpty=true) (t0:Int) (aU:Ex.typL l e.sub=([t0],0)) (h1:e.sub.length=1) (fQ:t0=1\/t0=2) (eP:e.n=1\/e.n=2) (hv:e.typ l=if e.n=t0 then(t0,0) else(0,20)) :
  Calls Tryz.prog 160 #[exV e Ae ce,.slice A l.length cap] w fun r w'=>r = .returned (.tuple #[.int .i64 (e.typ l).1,.int .i64 (e.typ l).2])/\Below w.heap.size w w':=by
 have q1:(e.kind == 1)=false:=Ud;have q2:(e.kind == 2)=false:=Ud;have q3:(e.kind == 3)=false:=Ud;have q4:(e.kind == 4)=true:=Ud;have dM:(Ex.typL l e.sub).2=0:=L2;have HB:=Lib.hid dM;clear dM;have gn:=Lib.hid aU;clear aU;have H1:=Lib.hid h1;clear h1;clear hk;have HV:=Lib.hid hv;clear hv;have ai:=he.len;unfold maxLen at ai;obtain⟨bI,aD⟩:=ai;have hT:=Lib.hid (show Ku [] (Ex.typL l (e.sub.drop 0))=Ex.typL l e.sub from Xq _ (Yb l e.sub));unfold exV
 go_enter Tryz.func160,Tryz.ntmps160
 go_wp2_with fail
 refine Jo fun W0 ag=>?_;have ax:Below w.heap.size w W0:=Uo;have bD:w.heap.size<W0.heap.size:=Us;have p0:W0.cell? ⟨w.heap.size,0,none⟩=some (.int .i64 e.kind):=Uc;have p1:W0.cell? ⟨w.heap.size,1,none⟩=some (.int .i32 e.n):=Uc;have p2:W0.cell? ⟨w.heap.size,2,none⟩=some (.string e.name):=Uc;have p3:W0.cell? ⟨w.heap.size,3,none⟩=some (.slice Ae e.sub.length ce):=Uc;clear ag;replace he:=he.later ax;replace hl:=hl.later ax
 go_loopw [6,7] (fun v i wr=>∃(k:Nat) (acc:List Int),k<=e.sub.length/\i = .int .i64 k/\acc.length=k/\wr.ownsRow W0.heap.size 3 1 v k (acc.map (Value.int .i64))/\Ku acc (Ex.typL l (e.sub.drop k))=Ex.typL l e.sub/\Below W0.heap.size W0 wr) (fun _ i _=>e.sub.length-(intOf i).toNat)
 case atStart=>exact⟨0,[],Nat.zero_le _,rfl,rfl,World.ownsRow_nil _ _ _ _,hT.out,Below.refl _ _⟩
 case round=>
  obtain⟨k,acc,hk,rfl,aR,ae,aa,ab⟩:=hrel;have hc:=Jg ab;have bu:=ab.size;have af:w.heap.size<wr.heap.size:=Ua;have dt:=Lib.hid aR;clear aR
  by_cases am:k<e.sub.length
  ·exact Uel
  ·have bk:k=e.sub.length:=Ua;rw [bk,List.drop_length,Ex.typL,Ku,if_pos rfl,List.append_nil,gn.out] at aa;have aR:acc = [t0]:=Dh;subst aR;have cD:k=1:=Fm;have HK:=Lib.hid bk;clear aa bk;rw [cD] at ae;obtain⟨g,gc,rfl,eN,aG,bJ,cg,ah⟩:=Kc ae Ua;unfold maxLen at cg;have e0:wr.cell? ⟨g,0,none⟩=some (.int .i64 t0):=ah 0 _ rfl;clear ah ae cD
   rcases fQ with rfl|rfl <;> rcases eP with eP|eP
   ·have s1:(e.n == 1)=true:=D4;have s2:(e.n == 2)=false:=D4;exact Uey
   ·have s1:(e.n == 1)=false:=D4;have s2:(e.n == 2)=true:=D4;exact Uez
   ·have s1:(e.n == 1)=true:=D4;have s2:(e.n == 2)=false:=D4;exact Uez
   ·have s1:(e.n == 1)=false:=D4;have s2:(e.n == 2)=true:=D4;exact Uey
theorem Kad (l:List Va) (A:Option Addr) (cap:Nat) (e:Ex) (ih:∀x∈e.sub,Jcr l A cap x) (Ae:Option Addr) (ce:Nat) (w:World) (he:Jt w e Ae ce) (hl:Ju w l A cap) (h3:e.sub.length<=3) (hk:e.kind=8) (aL:e.name.toList.isEmpty=false) (kk:Nat) (v:Va) (cL:Jp l e.name=(kk:Int)) (hx:l[kk]?=some v) (t0:Int) (aU:Ex.typL l e.sub=([t0],0)) (h1:e.sub.length=1) (fQ:t0=1\/t0=2) (hv:e.typ l=if v.type=2 then(t0,0) else(0,20)) :
  Calls Tryz.prog 160 #[exV e Ae ce,.slice A l.length cap] w fun r w'=>r = .returned (.tuple #[.int .i64 (e.typ l).1,.int .i64 (e.typ l).2])/\Below w.heap.size w w':=by
 have fR:kk<l.length:=(List.getElem?_eq_some_iff.1 hx).1;have le:(kk:Int)<(l.length:Int):=Ua;have cY:=hl.len;unfold maxLen at cY;obtain⟨fH,fI⟩:=cY;have ap:=fun W h=>Xa l A cap e.name W (hl.later h);rw [cL] at ap;have eb:=hl;obtain⟨bv,ov,rfl,dB,⟨v0,v1,v2,v3⟩⟩:=hl.get hx;have du:bv<w.heap.size:=dB;have tkk:¬((kk:Int)<0):=Ua;clear cL hx eb;have q1:(e.kind == 1)=false:=Ud;have q2:(e.kind == 2)=false:=Ud;have q3:(e.kind == 3)=false:=Ud;have q4:(e.kind == 4)=false:=Ud;have q5:(e.kind == 5)=false:=Ud;have q6:(e.kind == 6)=false:=Ud;have q7:(e.kind == 7)=false:=Ud;have q8:(e.kind == 8)=true:=Ud;have dM:(Ex.typL l e.sub).2=0:=L2;have HB:=Lib.hid dM;clear dM;have gn:=Lib.hid aU;clear aU;have H1:=Lib.hid h1;clear h1;clear hk;have HV:=Lib.hid hv;clear hv;have ai:=he.len;unfold maxLen at ai;obtain⟨bI,aD⟩:=ai;have hT:=Lib.hid (show Ku [] (Ex.typL l (e.sub.drop 0))=Ex.typL l e.sub from Xq _ (Yb l e.sub));unfold exV
 go_enter Tryz.func160,Tryz.ntmps160
 go_wp2_with fail
 refine Jo fun W0 ag=>?_;have ax:Below w.heap.size w W0:=Uo;have bD:w.heap.size<W0.heap.size:=Us;have p0:W0.cell? ⟨w.heap.size,0,none⟩=some (.int .i64 e.kind):=Uc;have p1:W0.cell? ⟨w.heap.size,1,none⟩=some (.int .i32 e.n):=Uc;have p2:W0.cell? ⟨w.heap.size,2,none⟩=some (.string e.name):=Uc;have p3:W0.cell? ⟨w.heap.size,3,none⟩=some (.slice Ae e.sub.length ce):=Uc;clear ag;replace he:=he.later ax;replace hl:=hl.later ax
 go_loopw [6,7] (fun v i wr=>∃(k:Nat) (acc:List Int),k<=e.sub.length/\i = .int .i64 k/\acc.length=k/\wr.ownsRow W0.heap.size 3 1 v k (acc.map (Value.int .i64))/\Ku acc (Ex.typL l (e.sub.drop k))=Ex.typL l e.sub/\Below W0.heap.size W0 wr) (fun _ i _=>e.sub.length-(intOf i).toNat)
 case atStart=>exact⟨0,[],Nat.zero_le _,rfl,rfl,World.ownsRow_nil _ _ _ _,hT.out,Below.refl _ _⟩
 case round=>
  exact Ueh
theorem Kah (l:List Va) (A:Option Addr) (cap:Nat) (e:Ex) (ih:∀x∈e.sub,Jcr l A cap x) (Ae:Option Addr) (ce:Nat) (w:World) (he:Jt w e Ae ce) (hl:Ju w l A cap) (h3:e.sub.length<=3) (hk:e.kind=9) (aL:e.name.toList.isEmpty=false) (kk:Nat) (v:Va) (cL:Jp l e.name=(kk:Int)) (hx:l[kk]?=some v) (t0:Int) (aU:Ex.typL l e.sub=([t0],0)) (h1:e.sub.length=1) (fQ:t0=1\/t0=2) (hv:e.typ l=if v.type=2 then(t0,0) else(0,20)) :
  Calls Tryz.prog 160 #[exV e Ae ce,.slice A l.length cap] w fun r w'=>r = .returned (.tuple #[.int .i64 (e.typ l).1,.int .i64 (e.typ l).2])/\Below w.heap.size w w':=by
 have fR:kk<l.length:=(List.getElem?_eq_some_iff.1 hx).1;have le:(kk:Int)<(l.length:Int):=Ua;have cY:=hl.len;unfold maxLen at cY;obtain⟨fH,fI⟩:=cY;have ap:=fun W h=>Xa l A cap e.name W (hl.later h);rw [cL] at ap;have eb:=hl;obtain⟨bv,ov,rfl,dB,⟨v0,v1,v2,v3⟩⟩:=hl.get hx;have du:bv<w.heap.size:=dB;have tkk:¬((kk:Int)<0):=Ua;clear cL hx eb;have q1:(e.kind == 1)=false:=Ud;have q2:(e.kind == 2)=false:=Ud;have q3:(e.kind == 3)=false:=Ud;have q4:(e.kind == 4)=false:=Ud;have q5:(e.kind == 5)=false:=Ud;have q6:(e.kind == 6)=false:=Ud;have q7:(e.kind == 7)=false:=Ud;have q8:(e.kind == 8)=false:=Ud;have q9:(e.kind == 9)=true:=Ud;have dM:(Ex.typL l e.sub).2=0:=L2;have HB:=Lib.hid dM;clear dM;have gn:=Lib.hid aU;clear aU;have H1:=Lib.hid h1;clear h1;clear hk;have HV:=Lib.hid hv;clear hv;have ai:=he.len;unfold maxLen at ai;obtain⟨bI,aD⟩:=ai;have hT:=Lib.hid (show Ku [] (Ex.typL l (e.sub.drop 0))=Ex.typL l e.sub from Xq _ (Yb l e.sub));unfold exV
 go_enter Tryz.func160,Tryz.ntmps160
 go_wp2_with fail
 refine Jo fun W0 ag=>?_;have ax:Below w.heap.size w W0:=Uo;have bD:w.heap.size<W0.heap.size:=Us;have p0:W0.cell? ⟨w.heap.size,0,none⟩=some (.int .i64 e.kind):=Uc;have p1:W0.cell? ⟨w.heap.size,1,none⟩=some (.int .i32 e.n):=Uc;have p2:W0.cell? ⟨w.heap.size,2,none⟩=some (.string e.name):=Uc;have p3:W0.cell? ⟨w.heap.size,3,none⟩=some (.slice Ae e.sub.length ce):=Uc;clear ag;replace he:=he.later ax;replace hl:=hl.later ax
 go_loopw [6,7] (fun v i wr=>∃(k:Nat) (acc:List Int),k<=e.sub.length/\i = .int .i64 k/\acc.length=k/\wr.ownsRow W0.heap.size 3 1 v k (acc.map (Value.int .i64))/\Ku acc (Ex.typL l (e.sub.drop k))=Ex.typL l e.sub/\Below W0.heap.size W0 wr) (fun _ i _=>e.sub.length-(intOf i).toNat)
 case atStart=>exact⟨0,[],Nat.zero_le _,rfl,rfl,World.ownsRow_nil _ _ _ _,hT.out,Below.refl _ _⟩
 case round=>
  exact Ueh
theorem Jzw (l:List Va) (A:Option Addr) (cap:Nat) (e:Ex) (ih:∀x∈e.sub,Jcr l A cap x) (Ae:Option Addr) (ce:Nat) (w:World) (he:Jt w e Ae ce) (hl:Ju w l A cap) (h3:e.sub.length<=3) (hk:e.kind=7) (aL:e.name.toList.isEmpty=true) (t0 t1:Int) (aU:Ex.typL l e.sub=([t0,t1],0)) (h1:e.sub.length=2) (fQ:t0=1\/t0=2) (gJ:t1=1\/t1=2) (hv:e.typ l=if t0=t1 then(t0,0) else(0,20)) :
  Calls Tryz.prog 160 #[exV e Ae ce,.slice A l.length cap] w fun r w'=>r = .returned (.tuple #[.int .i64 (e.typ l).1,.int .i64 (e.typ l).2])/\Below w.heap.size w w':=by
 have q1:(e.kind == 1)=false:=Ud;have q2:(e.kind == 2)=false:=Ud;have q3:(e.kind == 3)=false:=Ud;have q4:(e.kind == 4)=false:=Ud;have q5:(e.kind == 5)=false:=Ud;have q6:(e.kind == 6)=false:=Ud;have q7:(e.kind == 7)=true:=Ud;have dM:(Ex.typL l e.sub).2=0:=L2;have HB:=Lib.hid dM;clear dM;have gn:=Lib.hid aU;clear aU;have H1:=Lib.hid h1;clear h1;clear hk;have HV:=Lib.hid hv;clear hv;have ai:=he.len;unfold maxLen at ai;obtain⟨bI,aD⟩:=ai;have hT:=Lib.hid (show Ku [] (Ex.typL l (e.sub.drop 0))=Ex.typL l e.sub from Xq _ (Yb l e.sub));unfold exV
 go_enter Tryz.func160,Tryz.ntmps160
 go_wp2_with fail
 refine Jo fun W0 ag=>?_;have ax:Below w.heap.size w W0:=Uo;have bD:w.heap.size<W0.heap.size:=Us;have p0:W0.cell? ⟨w.heap.size,0,none⟩=some (.int .i64 e.kind):=Uc;have p1:W0.cell? ⟨w.heap.size,1,none⟩=some (.int .i32 e.n):=Uc;have p2:W0.cell? ⟨w.heap.size,2,none⟩=some (.string e.name):=Uc;have p3:W0.cell? ⟨w.heap.size,3,none⟩=some (.slice Ae e.sub.length ce):=Uc;clear ag;replace he:=he.later ax;replace hl:=hl.later ax
 go_loopw [6,7] (fun v i wr=>∃(k:Nat) (acc:List Int),k<=e.sub.length/\i = .int .i64 k/\acc.length=k/\wr.ownsRow W0.heap.size 3 1 v k (acc.map (Value.int .i64))/\Ku acc (Ex.typL l (e.sub.drop k))=Ex.typL l e.sub/\Below W0.heap.size W0 wr) (fun _ i _=>e.sub.length-(intOf i).toNat)
 case atStart=>exact⟨0,[],Nat.zero_le _,rfl,rfl,World.ownsRow_nil _ _ _ _,hT.out,Below.refl _ _⟩
 case round=>
  obtain⟨k,acc,hk,rfl,aR,ae,aa,ab⟩:=hrel;have hc:=Jg ab;have bu:=ab.size;have af:w.heap.size<wr.heap.size:=Ua;have dt:=Lib.hid aR;clear aR
  by_cases am:k<e.sub.length
  ·exact Uel
  ·have bk:k=e.sub.length:=Ua;rw [bk,List.drop_length,Ex.typL,Ku,if_pos rfl,List.append_nil,gn.out] at aa;have aR:acc = [t0,t1]:=Dh;subst aR;have cD:k=2:=Fm;have HK:=Lib.hid bk;clear aa bk;rw [cD] at ae;obtain⟨g,gc,rfl,eN,aG,bJ,cg,ah⟩:=Kc ae Ua;unfold maxLen at cg;have e0:wr.cell? ⟨g,0,none⟩=some (.int .i64 t0):=ah 0 _ rfl;have e1:wr.cell? ⟨g,1,none⟩=some (.int .i64 t1):=ah 1 _ rfl;have eT:g<wr.heap.size+1:=Ua;have eu:(1:Int)<((2:Nat):Int):=Ua;clear ah ae cD
   rcases fQ with rfl|rfl <;> rcases gJ with rfl|rfl
   ·exact Uew
   ·exact Uex
   ·exact Uex
   ·exact Uew
theorem Jzi (l:List Va) (A:Option Addr) (cap:Nat) (e:Ex) (ih:∀x∈e.sub,Jcr l A cap x) (Ae:Option Addr) (ce:Nat) (w:World) (he:Jt w e Ae ce) (hl:Ju w l A cap) (h3:e.sub.length<=3) (hk:e.kind=10) (aL:e.name.toList.isEmpty=false) (kk:Nat) (v:Va) (cL:Jp l e.name=(kk:Int)) (hx:l[kk]?=some v) (t0 t1:Int) (aU:Ex.typL l e.sub=([t0,t1],0)) (h1:e.sub.length=2) (fQ:t0=1\/t0=2) (gJ:t1=1\/t1=2) (eQ:v.type=2) (hv:e.typ l=if t0=t1 then(t0,0) else(0,20)) :
  Calls Tryz.prog 160 #[exV e Ae ce,.slice A l.length cap] w fun r w'=>r = .returned (.tuple #[.int .i64 (e.typ l).1,.int .i64 (e.typ l).2])/\Below w.heap.size w w':=by
 have fR:kk<l.length:=(List.getElem?_eq_some_iff.1 hx).1;have le:(kk:Int)<(l.length:Int):=Ua;have cY:=hl.len;unfold maxLen at cY;obtain⟨fH,fI⟩:=cY;have ap:=fun W h=>Xa l A cap e.name W (hl.later h);rw [cL] at ap;have eb:=hl;obtain⟨bv,ov,rfl,dB,⟨v0,v1,v2,v3⟩⟩:=hl.get hx;have du:bv<w.heap.size:=dB;have tkk:¬((kk:Int)<0):=Ua;clear cL hx eb;have q1:(e.kind == 1)=false:=Ud;have q2:(e.kind == 2)=false:=Ud;have q3:(e.kind == 3)=false:=Ud;have q4:(e.kind == 4)=false:=Ud;have q5:(e.kind == 5)=false:=Ud;have q6:(e.kind == 6)=false:=Ud;have q7:(e.kind == 7)=false:=Ud;have q8:(e.kind == 8)=false:=Ud;have q9:(e.kind == 9)=false:=Ud;have q10:(e.kind == 10)=true:=Ud;have t2:(v.type == 2)=true:=by rw [eQ];rfl
 clear eQ;have dM:(Ex.typL l e.sub).2=0:=L2;have HB:=Lib.hid dM;clear dM;have gn:=Lib.hid aU;clear aU;have H1:=Lib.hid h1;clear h1;clear hk;have HV:=Lib.hid hv;clear hv;have ai:=he.len;unfold maxLen at ai;obtain⟨bI,aD⟩:=ai;have hT:=Lib.hid (show Ku [] (Ex.typL l (e.sub.drop 0))=Ex.typL l e.sub from Xq _ (Yb l e.sub));unfold exV
 go_enter Tryz.func160,Tryz.ntmps160
 go_wp2_with fail
 refine Jo fun W0 ag=>?_;have ax:Below w.heap.size w W0:=Uo;have bD:w.heap.size<W0.heap.size:=Us;have p0:W0.cell? ⟨w.heap.size,0,none⟩=some (.int .i64 e.kind):=Uc;have p1:W0.cell? ⟨w.heap.size,1,none⟩=some (.int .i32 e.n):=Uc;have p2:W0.cell? ⟨w.heap.size,2,none⟩=some (.string e.name):=Uc;have p3:W0.cell? ⟨w.heap.size,3,none⟩=some (.slice Ae e.sub.length ce):=Uc;clear ag;replace he:=he.later ax;replace hl:=hl.later ax
 go_loopw [6,7] (fun v i wr=>∃(k:Nat) (acc:List Int),k<=e.sub.length/\i = .int .i64 k/\acc.length=k/\wr.ownsRow W0.heap.size 3 1 v k (acc.map (Value.int .i64))/\Ku acc (Ex.typL l (e.sub.drop k))=Ex.typL l e.sub/\Below W0.heap.size W0 wr) (fun _ i _=>e.sub.length-(intOf i).toNat)
 case atStart=>exact⟨0,[],Nat.zero_le _,rfl,rfl,World.ownsRow_nil _ _ _ _,hT.out,Below.refl _ _⟩
 case round=>
  obtain⟨k,acc,hk,rfl,aR,ae,aa,ab⟩:=hrel;have hc:=Jg ab;have bu:=ab.size;have af:w.heap.size<wr.heap.size:=Ua;have dt:=Lib.hid aR;clear aR
  by_cases am:k<e.sub.length
  ·exact Uel
  ·have bk:k=e.sub.length:=Ua;rw [bk,List.drop_length,Ex.typL,Ku,if_pos rfl,List.append_nil,gn.out] at aa;have aR:acc = [t0,t1]:=Dh;subst aR;have cD:k=2:=Fm;have HK:=Lib.hid bk;clear aa bk;rw [cD] at ae;obtain⟨g,gc,rfl,eN,aG,bJ,cg,ah⟩:=Kc ae Ua;unfold maxLen at cg;have e0:wr.cell? ⟨g,0,none⟩=some (.int .i64 t0):=ah 0 _ rfl;have e1:wr.cell? ⟨g,1,none⟩=some (.int .i64 t1):=ah 1 _ rfl;have eT:g<wr.heap.size+1:=Ua;have eR:(1:Int)<((2:Nat):Int):=Ua;clear ah ae cD;have aC:Below w.heap.size w wr:=Jd ax ab;have fA:=Jg aC;have mE:bv<wr.heap.size:=Ua;have ll:bv<wr.heap.size+1:=Ua;have qF:w.heap.size<wr.heap.size+1:=Ua;have v0':=(fA _ _ du).trans v0;have v1':=(fA _ _ du).trans v1;have v2':=(fA _ _ du).trans v2;have v3':=(fA _ _ du).trans v3;clear fA v0 v1 v2 v3
   rcases fQ with rfl|rfl <;> rcases gJ with rfl|rfl
   ·exact Ues
   ·exact Uet
   ·exact Uet
   ·exact Ues
theorem Jyq (l:List Va) (A:Option Addr) (cap:Nat) (e:Ex) (ih:∀x∈e.sub,Jcr l A cap x) (Ae:Option Addr) (ce:Nat) (w:World) (he:Jt w e Ae ce) (hl:Ju w l A cap) (h3:e.sub.length<=3) (hk:e.kind=10) (aL:e.name.toList.isEmpty=false) (kk:Nat) (v:Va) (cL:Jp l e.name=(kk:Int)) (hx:l[kk]?=some v) (t0 t1:Int) (aU:Ex.typL l e.sub=([t0,t1],0)) (h1:e.sub.length=2) (fQ:t0=1\/t0=2) (gJ:t1=1\/t1=2) (eQ:v.type≠2) (hv:e.typ l=(0,20)) :
  Calls Tryz.prog 160 #[exV e Ae ce,.slice A l.length cap] w fun r w'=>r = .returned (.tuple #[.int .i64 (e.typ l).1,.int .i64 (e.typ l).2])/\Below w.heap.size w w':=by
 have fR:kk<l.length:=(List.getElem?_eq_some_iff.1 hx).1;have le:(kk:Int)<(l.length:Int):=Ua;have cY:=hl.len;unfold maxLen at cY;obtain⟨fH,fI⟩:=cY;have ap:=fun W h=>Xa l A cap e.name W (hl.later h);rw [cL] at ap;have eb:=hl;obtain⟨bv,ov,rfl,dB,⟨v0,v1,v2,v3⟩⟩:=hl.get hx;have du:bv<w.heap.size:=dB;have tkk:¬((kk:Int)<0):=Ua;clear cL hx eb;have q1:(e.kind == 1)=false:=Ud;have q2:(e.kind == 2)=false:=Ud;have q3:(e.kind == 3)=false:=Ud;have q4:(e.kind == 4)=false:=Ud;have q5:(e.kind == 5)=false:=Ud;have q6:(e.kind == 6)=false:=Ud;have q7:(e.kind == 7)=false:=Ud;have q8:(e.kind == 8)=false:=Ud;have q9:(e.kind == 9)=false:=Ud;have q10:(e.kind == 10)=true:=Ud;have t2:(v.type == 2)=false:=Sx;clear eQ;have dM:(Ex.typL l e.sub).2=0:=L2;have HB:=Lib.hid dM;clear dM;have gn:=Lib.hid aU;clear aU;have H1:=Lib.hid h1;clear h1;clear hk;have HV:=Lib.hid hv;clear hv;have ai:=he.len;unfold maxLen at ai;obtain⟨bI,aD⟩:=ai;have hT:=Lib.hid (show Ku [] (Ex.typL l (e.sub.drop 0))=Ex.typL l e.sub from Xq _ (Yb l e.sub));unfold exV
 go_enter Tryz.func160,Tryz.ntmps160
 go_wp2_with fail
 refine Jo fun W0 ag=>?_;have ax:Below w.heap.size w W0:=Uo;have bD:w.heap.size<W0.heap.size:=Us;have p0:W0.cell? ⟨w.heap.size,0,none⟩=some (.int .i64 e.kind):=Uc;have p1:W0.cell? ⟨w.heap.size,1,none⟩=some (.int .i32 e.n):=Uc;have p2:W0.cell? ⟨w.heap.size,2,none⟩=some (.string e.name):=Uc;have p3:W0.cell? ⟨w.heap.size,3,none⟩=some (.slice Ae e.sub.length ce):=Uc;clear ag;replace he:=he.later ax;replace hl:=hl.later ax
 go_loopw [6,7] (fun v i wr=>∃(k:Nat) (acc:List Int),k<=e.sub.length/\i = .int .i64 k/\acc.length=k/\wr.ownsRow W0.heap.size 3 1 v k (acc.map (Value.int .i64))/\Ku acc (Ex.typL l (e.sub.drop k))=Ex.typL l e.sub/\Below W0.heap.size W0 wr) (fun _ i _=>e.sub.length-(intOf i).toNat)
 case atStart=>exact⟨0,[],Nat.zero_le _,rfl,rfl,World.ownsRow_nil _ _ _ _,hT.out,Below.refl _ _⟩
 case round=>
  obtain⟨k,acc,hk,rfl,aR,ae,aa,ab⟩:=hrel;have hc:=Jg ab;have bu:=ab.size;have af:w.heap.size<wr.heap.size:=Ua;have dt:=Lib.hid aR;clear aR
  by_cases am:k<e.sub.length
  ·exact Uel
  ·have bk:k=e.sub.length:=Ua;rw [bk,List.drop_length,Ex.typL,Ku,if_pos rfl,List.append_nil,gn.out] at aa;have aR:acc = [t0,t1]:=Dh;subst aR;have cD:k=2:=Fm;have HK:=Lib.hid bk;clear aa bk;rw [cD] at ae;obtain⟨g,gc,rfl,eN,aG,bJ,cg,ah⟩:=Kc ae Ua;unfold maxLen at cg;have e0:wr.cell? ⟨g,0,none⟩=some (.int .i64 t0):=ah 0 _ rfl;have e1:wr.cell? ⟨g,1,none⟩=some (.int .i64 t1):=ah 1 _ rfl;have eT:g<wr.heap.size+1:=Ua;have eR:(1:Int)<((2:Nat):Int):=Ua;clear ah ae cD;have aC:Below w.heap.size w wr:=Jd ax ab;have fA:=Jg aC;have mE:bv<wr.heap.size:=Ua;have ll:bv<wr.heap.size+1:=Ua;have qF:w.heap.size<wr.heap.size+1:=Ua;have v0':=(fA _ _ du).trans v0;have v1':=(fA _ _ du).trans v1;have v2':=(fA _ _ du).trans v2;have v3':=(fA _ _ du).trans v3;clear fA v0 v1 v2 v3;have bL:=Lib.hid HV.out
   go_wp2_with (first|(go_at_call 49;go_loud (refine(ap _ Jb).mono ?_;rintro r w1 ⟨rfl,ac⟩;have ak:=Jg ac;have db:=Jf ac;have eq:=ac.size;(try simp at eq);have ge:bv<w1.heap.size:=Ua;(try have gf:g<w1.heap.size:=Ua))))
   go_ret2
   exact⟨U8,Udl⟩
theorem Jz3 (l:List Va) (A:Option Addr) (cap:Nat) (e:Ex) (ih:∀x∈e.sub,Jcr l A cap x) (Ae:Option Addr) (ce:Nat) (w:World) (he:Jt w e Ae ce) (hl:Ju w l A cap) (h3:e.sub.length<=3) (hk:e.kind=6) (aL:e.name.toList.isEmpty=true) (t1 t2:Int) (aU:Ex.typL l e.sub=([2,t1,t2],0)) (h1:e.sub.length=3) (gJ:t1=1\/t1=2) (nQ:t2=1\/t2=2) (hv:e.typ l=if t1=t2 then(t1,0) else(0,20)) :
  Calls Tryz.prog 160 #[exV e Ae ce,.slice A l.length cap] w fun r w'=>r = .returned (.tuple #[.int .i64 (e.typ l).1,.int .i64 (e.typ l).2])/\Below w.heap.size w w':=by
 have q1:(e.kind == 1)=false:=Ud;have q2:(e.kind == 2)=false:=Ud;have q3:(e.kind == 3)=false:=Ud;have q4:(e.kind == 4)=false:=Ud;have q5:(e.kind == 5)=false:=Ud;have q6:(e.kind == 6)=true:=Ud;have dM:(Ex.typL l e.sub).2=0:=L2;have HB:=Lib.hid dM;clear dM;have gn:=Lib.hid aU;clear aU;have H1:=Lib.hid h1;clear h1;clear hk;have HV:=Lib.hid hv;clear hv;have ai:=he.len;unfold maxLen at ai;obtain⟨bI,aD⟩:=ai;have hT:=Lib.hid (show Ku [] (Ex.typL l (e.sub.drop 0))=Ex.typL l e.sub from Xq _ (Yb l e.sub));unfold exV
 go_enter Tryz.func160,Tryz.ntmps160
 go_wp2_with fail
 refine Jo fun W0 ag=>?_;have ax:Below w.heap.size w W0:=Uo;have bD:w.heap.size<W0.heap.size:=Us;have p0:W0.cell? ⟨w.heap.size,0,none⟩=some (.int .i64 e.kind):=Uc;have p1:W0.cell? ⟨w.heap.size,1,none⟩=some (.int .i32 e.n):=Uc;have p2:W0.cell? ⟨w.heap.size,2,none⟩=some (.string e.name):=Uc;have p3:W0.cell? ⟨w.heap.size,3,none⟩=some (.slice Ae e.sub.length ce):=Uc;clear ag;replace he:=he.later ax;replace hl:=hl.later ax
 go_loopw [6,7] (fun v i wr=>∃(k:Nat) (acc:List Int),k<=e.sub.length/\i = .int .i64 k/\acc.length=k/\wr.ownsRow W0.heap.size 3 1 v k (acc.map (Value.int .i64))/\Ku acc (Ex.typL l (e.sub.drop k))=Ex.typL l e.sub/\Below W0.heap.size W0 wr) (fun _ i _=>e.sub.length-(intOf i).toNat)
 case atStart=>exact⟨0,[],Nat.zero_le _,rfl,rfl,World.ownsRow_nil _ _ _ _,hT.out,Below.refl _ _⟩
 case round=>
  obtain⟨k,acc,hk,rfl,aR,ae,aa,ab⟩:=hrel;have hc:=Jg ab;have bu:=ab.size;have af:w.heap.size<wr.heap.size:=Ua;have dt:=Lib.hid aR;clear aR
  by_cases am:k<e.sub.length
  ·exact Uel
  ·have bk:k=e.sub.length:=Ua;rw [bk,List.drop_length,Ex.typL,Ku,if_pos rfl,List.append_nil,gn.out] at aa;have aR:acc = [2,t1,t2]:=Dh;subst aR;have cD:k=3:=Fm;have HK:=Lib.hid bk;clear aa bk;rw [cD] at ae;obtain⟨g,gc,rfl,eN,aG,bJ,cg,ah⟩:=Kc ae Ua;unfold maxLen at cg;have e0:wr.cell? ⟨g,0,none⟩=some (.int .i64 2):=ah 0 _ rfl;have e1:wr.cell? ⟨g,1,none⟩=some (.int .i64 t1):=ah 1 _ rfl;have e2:wr.cell? ⟨g,2,none⟩=some (.int .i64 t2):=ah 2 _ rfl;have eT:g<wr.heap.size+1:=Ua;have eR:(1:Int)<((3:Nat):Int):=Ua;have eu:(2:Int)<((3:Nat):Int):=Ua;clear ah ae cD
   rcases gJ with rfl|rfl <;> rcases nQ with rfl|rfl
   ·exact Uew
   ·exact Uex
   ·exact Uex
   ·exact Uew
theorem Jzd (l:List Va) (A:Option Addr) (cap:Nat) (e:Ex) (ih:∀x∈e.sub,Jcr l A cap x) (Ae:Option Addr) (ce:Nat) (w:World) (he:Jt w e Ae ce) (hl:Ju w l A cap) (h3:e.sub.length<=3) (hk:e.kind=6) (aL:e.name.toList.isEmpty=true) (t1 t2:Int) (aU:Ex.typL l e.sub=([1,t1,t2],0)) (h1:e.sub.length=3) (gJ:t1=1\/t1=2) (nQ:t2=1\/t2=2) (hv:e.typ l=(0,20)) :
  Calls Tryz.prog 160 #[exV e Ae ce,.slice A l.length cap] w fun r w'=>r = .returned (.tuple #[.int .i64 (e.typ l).1,.int .i64 (e.typ l).2])/\Below w.heap.size w w':=by
 have q1:(e.kind == 1)=false:=Ud;have q2:(e.kind == 2)=false:=Ud;have q3:(e.kind == 3)=false:=Ud;have q4:(e.kind == 4)=false:=Ud;have q5:(e.kind == 5)=false:=Ud;have q6:(e.kind == 6)=true:=Ud;clear gJ nQ;have dM:(Ex.typL l e.sub).2=0:=L2;have HB:=Lib.hid dM;clear dM;have gn:=Lib.hid aU;clear aU;have H1:=Lib.hid h1;clear h1;clear hk;have HV:=Lib.hid hv;clear hv;have ai:=he.len;unfold maxLen at ai;obtain⟨bI,aD⟩:=ai;have hT:=Lib.hid (show Ku [] (Ex.typL l (e.sub.drop 0))=Ex.typL l e.sub from Xq _ (Yb l e.sub));unfold exV
 go_enter Tryz.func160,Tryz.ntmps160
 go_wp2_with fail
 refine Jo fun W0 ag=>?_;have ax:Below w.heap.size w W0:=Uo;have bD:w.heap.size<W0.heap.size:=Us;have p0:W0.cell? ⟨w.heap.size,0,none⟩=some (.int .i64 e.kind):=Uc;have p1:W0.cell? ⟨w.heap.size,1,none⟩=some (.int .i32 e.n):=Uc;have p2:W0.cell? ⟨w.heap.size,2,none⟩=some (.string e.name):=Uc;have p3:W0.cell? ⟨w.heap.size,3,none⟩=some (.slice Ae e.sub.length ce):=Uc;clear ag;replace he:=he.later ax;replace hl:=hl.later ax
 go_loopw [6,7] (fun v i wr=>∃(k:Nat) (acc:List Int),k<=e.sub.length/\i = .int .i64 k/\acc.length=k/\wr.ownsRow W0.heap.size 3 1 v k (acc.map (Value.int .i64))/\Ku acc (Ex.typL l (e.sub.drop k))=Ex.typL l e.sub/\Below W0.heap.size W0 wr) (fun _ i _=>e.sub.length-(intOf i).toNat)
 case atStart=>exact⟨0,[],Nat.zero_le _,rfl,rfl,World.ownsRow_nil _ _ _ _,hT.out,Below.refl _ _⟩
 case round=>
  obtain⟨k,acc,hk,rfl,aR,ae,aa,ab⟩:=hrel;have hc:=Jg ab;have bu:=ab.size;have af:w.heap.size<wr.heap.size:=Ua;have dt:=Lib.hid aR;clear aR
  by_cases am:k<e.sub.length
  ·exact Uel
  ·have bk:k=e.sub.length:=Ua;rw [bk,List.drop_length,Ex.typL,Ku,if_pos rfl,List.append_nil,gn.out] at aa;have aR:acc = [1,t1,t2]:=Dh;subst aR;have cD:k=3:=Fm;have HK:=Lib.hid bk;clear aa bk;rw [cD] at ae;obtain⟨g,gc,rfl,eN,aG,bJ,cg,ah⟩:=Kc ae Ua;unfold maxLen at cg;have e0:wr.cell? ⟨g,0,none⟩=some (.int .i64 1):=ah 0 _ rfl;have e1:wr.cell? ⟨g,1,none⟩=some (.int .i64 t1):=ah 1 _ rfl;have e2:wr.cell? ⟨g,2,none⟩=some (.int .i64 t2):=ah 2 _ rfl;have eT:g<wr.heap.size+1:=Ua;have eR:(1:Int)<((3:Nat):Int):=Ua;have eu:(2:Int)<((3:Nat):Int):=Ua;clear ah ae cD;have bL:=Lib.hid HV.out
   go_wp2_with fail
   go_ret2
   exact⟨U8,Udl⟩
end Go.Proofs.YtknfcamdfdfoeaaGreatDoor
