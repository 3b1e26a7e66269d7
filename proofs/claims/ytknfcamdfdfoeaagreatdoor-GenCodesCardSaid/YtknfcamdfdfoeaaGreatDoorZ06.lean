/- Lemmas. -/
import Derived.Test.YtknfcamdfdfoeaaGreatDoorMac
import Derived.Test.YtknfcamdfdfoeaaGreatDoorZ05
import Derived.Test.YtknfcamdfdfoeaaGreatDoorZ01
import Derived.Test.YtknfcamdfdfoeaaGreatDoorZ00
set_option linter.unusedVariables false
set_option linter.unusedSimpArgs false
set_option maxRecDepth 100000
set_option maxHeartbeats 64000000
namespace Go.Proofs.YtknfcamdfdfoeaaGreatDoor
open Go.RowKit
theorem Juy (e:Ex):∀(A:Option Addr) (cap:Nat) (w:World),Jt w e A cap->e.size<=1000000->
  Calls Tryz.prog 167 #[exV e A cap] w fun r w'=>r = .returned (.int .i64 e.depth)/\Below w.heap.size w w':=by
 induction e using Ex.ind with
 | h e ih=>
 intro A cap w he hz;have hl:=he.len;unfold maxLen at hl;obtain⟨bI,aD⟩:=hl;have qY:=Ex.depth_bd e;unfold exV
 go_enter Tryz.func167,Tryz.ntmps167
 go_wp2_with fail
 go_loopw [3,9] (fun m i wr=>∃(k:Nat) (m':Int),k<=e.sub.length/\i = .int .i64 k/\m = .int .i64 m'/\0<=m'/\m'<=1000000/\Ex.depthL (e.sub.drop k) m'+1=e.depth/\Below w.heap.size w wr) (fun _ i _=>e.sub.length-(intOf i).toNat)
 case atStart=>exact⟨0,0,Nat.zero_le _,rfl,rfl,Ua,Ua,by simp [Ex.depth_eq],Jb⟩
 case round=>
  obtain⟨k,m',hk,rfl,rfl,h0,h1,aa,ab⟩:=hrel
  by_cases am:k<e.sub.length
  ·obtain⟨x,hx,aj,hd⟩:=Kl am;obtain⟨b,off,A',cap',rfl,c0,c1,c2,c3,hs⟩:=(he.later ab).get hx;rw [hd,Ex.depthL] at aa;have ct:=Ex.depth_bd x;have cE:=Ex.size_sub hx;have ihx:=ih x aj;have HR:=Lib.hid aa;clear aa hd hx
   go_wp2_with (go_at_call 167;refine(ihx A' cap' _ (hs.later Jb) Ua).mono ?_;rintro r w1 ⟨rfl,ac⟩)
   go_roundw
   case rel=>exact⟨k+1,max m' x.depth,Ua,Up,Tb,Ua,Ua,HR.out,Jb⟩
   case measure=>simp [intOf];omega
  ·have bk:k=e.sub.length:=Ua;rw [bk,List.drop_length] at aa;rw [Ex.depthL] at aa;have HR:=Lib.hid aa;clear aa bk;exact Uda
theorem Jbm (k:Int) (w:World):Calls Tryz.prog 177 #[.int .i64 k] w fun r w'=>r = .returned (.tuple #[.int .i64 (Jw k).1,.int .i32 (Jw k).2.1,.int .i32 (Jw k).2.2.1,.bool (Jw k).2.2.2.1,.bool (Jw k).2.2.2.2])/\w=w':=by
 go_enter Tryz.func177,Tryz.ntmps177
 go_wp2_with fail
 all_goals (refine bodyPost_ret (v:= .tuple #[.int .i64 (Jw k).1,.int .i32 (Jw k).2.1,.int .i32 (Jw k).2.2.1,.bool (Jw k).2.2.2.1,.bool (Jw k).2.2.2.2]) (by simp_all [results,Tryz.results177,go_sem,Jw]) rfl ⟨rfl,rfl⟩)
end Go.Proofs.YtknfcamdfdfoeaaGreatDoor
namespace Go.Proofs.YtknfcamdfdfoeaaGreatDoor
open Go.RowKit Go.Sort
theorem Jbf {a b:Int} (h:(a == b)=true):a=b:=Ve
theorem Jei {a b:Int} (h:(a != b)=false):a=b:=Ve
theorem Jgi {a b:Int} (h:(a != b)=false):(a == b)=true:=Ve
theorem Jgo {a b:Int} (h:(a != b)=true):(a == b)=false:=Ve
theorem Jw3 (e:Ex):∀(y:Ex) (A:Option Addr) (cap:Nat) (A2:Option Addr) (cap2:Nat) (w:World),Jt w e A cap->Jt w y A2 cap2->
  Calls Tryz.prog 147 #[exV e A cap,exV y A2 cap2] w fun r w'=>r = .returned (.bool (e.same y))/\Below w.heap.size w w':=by
 induction e using Ex.ind with
 | h e ih=>
 intro y A cap A2 cap2 w he hy;have hl:=he.len;have qM:=hy.len;unfold maxLen at hl qM;obtain⟨bI,aD⟩:=hl;obtain⟨fD,cG⟩:=qM;have hv:=Ex.same_eq e y;unfold exV
 cases h1:(e.kind != y.kind)
 case true=>
   rw [Jgo h1,Bool.false_and,Bool.false_and,Bool.false_and,Bool.false_and] at hv;exact Ucf
 rw [Jgi h1,Bool.true_and] at hv
 cases h2:(e.n != y.n)
 case true=>
   rw [Jgo h2,Bool.false_and,Bool.false_and,Bool.false_and] at hv;exact Ucf
 rw [Jgi h2,Bool.true_and] at hv
 cases h3:(e.name.toList == y.name.toList)
 case false=>
   rw [h3,Bool.false_and,Bool.false_and] at hv;exact Ucf
 rw [h3,Bool.true_and] at hv
 cases h4:((e.sub.length:Int) != y.sub.length)
 case true=>
   have oh:(e.sub.length == y.sub.length)=false:=by {simp at h4;simp;omega};rw [oh,Bool.false_and] at hv;clear oh
   exact Ucf
 have oh:e.sub.length=y.sub.length:=by have:=Jei h4;omega
 rw [oh,beq_self_eq_true,Bool.true_and] at hv;have HV:=Lib.hid hv;clear hv;have H4:=Lib.hid oh;clear oh
 go_enter Tryz.func147,Tryz.ntmps147
 go_wp2_with fail
 go_loopw [38] (fun i wr=>∃(k:Nat),k<=e.sub.length/\i = .int .i64 k/\Ex.sameL (e.sub.drop k) (y.sub.drop k)=e.same y/\wr.cell? ⟨w.heap.size+1,3,none⟩=some (.slice A2 y.sub.length cap2)/\Below w.heap.size w wr) (fun i _=>e.sub.length-(intOf i).toNat)
 case atStart=>exact⟨0,Nat.zero_le _,rfl,Td,Uq,Jb⟩
 case round=>
  obtain⟨k,hk,rfl,aa,vV,ab⟩:=hrel;have gt:=block_lt_of_cell vV;dsimp only at gt;have hbz':w.heap.size<wr.heap.size:=Ua
  by_cases am:k<e.sub.length
  ·have dO:k<y.sub.length:=by have:=H4.out;omega
   obtain⟨x,hx,aj,hd⟩:=Kl am;obtain⟨b,off,A',cap',rfl,c0,c1,c2,c3,hs⟩:=(he.later ab).get hx;have qh:y.sub[k]?=some y.sub[k]:=List.getElem?_eq_getElem dO;have gN:y.sub.drop k=y.sub[k] :: y.sub.drop (k+1):=List.drop_eq_getElem_cons dO;generalize y.sub[k]=x2 at qh gN;obtain⟨b2,off2,A2',cap2',rfl,g0,g1,g2,g3,gq⟩:=(hy.later ab).get qh;rw [hd,gN,Ex.sameL] at aa;have ihx:=ih x aj;have aq:=block_lt_of_cell g0;dsimp only at aq;have iJ:b2<wr.heap.size+1:=Ua
   cases jN:x.same x2
   ·rw [jN] at aa;have HR:=Lib.hid aa;clear aa hd gN hx qh
    go_wp2_with fail
    refine Jx Ug Ug (fun bj=>?_)
    repeat (quiet_step ((go_at_call 147;exact Calls.regrown_of (ihx x2 _ _ _ _ _ (hs.later Jb) (gq.later Jb)))))
    exact Ubt
   ·rw [jN] at aa;have HR:=Lib.hid aa;clear aa hd gN hx qh
    go_wp2_with fail
    refine Jx Ug Ug (fun bj=>?_)
    repeat (quiet_step ((go_at_call 147;exact Calls.regrown_of (ihx x2 _ _ _ _ _ (hs.later Jb) (gq.later Jb)))))
    refine wpQuiet_nil ?_;intro wq au;replace au:=qbo au;obtain⟨au,dA,bh⟩:=au;clear bj
    (try simp at bh)
    go_wp2_with fail
    go_roundw
    case rel=>exact⟨k+1,Ua,Up,HR.out,Udo,Jb⟩
    case measure=>simp [intOf];omega
  ·exact Ubu
theorem Jtn (e:Ex):∀(A:Option Addr) (cap:Nat) (w:World),Jt w e A cap->
  Calls Tryz.prog 168 #[exV e A cap] w fun r w'=>r = .returned (.bool e.formed)/\Below w.heap.size w w':=by
 induction e using Ex.ind with
 | h e ih=>
 intro A cap w he;have hl:=he.len;unfold maxLen at hl;obtain⟨bI,aD⟩:=hl;have hv:=Ex.formed_eq e;unfold Jl at hv;unfold exV
 cases h1:(Jw e.kind).2.2.2.2
 case false=>
   simp only [h1,Bool.false_and] at hv;exact Ubj
 cases h2:((e.sub.length:Int) != (Jw e.kind).1)
 case true=>
   simp only [Jgo h2,Bool.false_and,Bool.and_false] at hv;exact Ubj
 cases h3:decide (e.n<(Jw e.kind).2.1)
 case true=>
   simp only [h3,Bool.false_and,Bool.and_false,Bool.not_true] at hv;exact Ubj
 cases h4:decide ((Jw e.kind).2.2.1<e.n)
 case true=>
   simp only [h4,Bool.false_and,Bool.and_false,Bool.not_true] at hv;exact Ubj
 replace hv:e.formed=(((Jw e.kind).2.2.2.1 == Kz e.name) && ((Jw e.kind).2.2.2.1 || e.name.toList.isEmpty) && Ex.formedL e.sub):=by
  rw [hv];simp only [h1,Jgi h2,h3,h4,Bool.not_false,Bool.true_and]
 cases h5:(Jw e.kind).2.2.2.1
 case false=>
  cases h6:Kz e.name
  case true=>
    simp only [h5,h6,Bool.false_beq,Bool.not_true,Bool.false_and] at hv;exact Uay
  cases h7:e.name.toList.isEmpty
  case false=>
    simp only [h5,h6,h7,Bool.false_or,Bool.and_false,Bool.false_and] at hv;exact Uay
  rw [h5,h6,h7] at hv;exact T4
 case true=>
  cases h6:Kz e.name
  case false=>
    simp only [h5,h6,Bool.true_beq,Bool.false_and] at hv;exact Uay
  rw [h5,h6] at hv;exact T4
theorem Jnc (e:Ex) (A:Option Addr) (cap:Nat) (w:World) (he:Jt w e A cap) :
  Calls Tryz.prog 145 #[exV e A cap] w fun r w'=>r = .returned (.int .i64 e.right)/\Below w.heap.size w w':=by
 have hv:e.right=if 120<e.count 121 then 3 else if 12<e.depth then 17 else if e.formed then 0 else 4:=rfl;have fB:=fun W h=>Jt2 e A cap 121 W (he.later h) Ua Ua
 by_cases h1:120<e.count 121
 ·rw [if_pos h1] at hv;have HV:=Lib.hid hv;clear hv;unfold exV at fB ⊢
  go_enter Tryz.func145,Tryz.ntmps145
  go_wp2_with (first|(go_at_call 166;refine(fB _ Jb).mono ?_;rintro r w1 ⟨rfl,ac⟩;have ⟨ak,af⟩:=aft ac;(try simp at af);(try have bV:=lt0 w w1);(try have gq:=ltA w 1 w1);(try have ow:=ltA w 2 w1);(try have ns:=lt0 wr w1);(try have nt:=ltA wr 1 w1)))
  exact Udf
 rw [if_neg h1] at hv;have cE:=Ex.count_size e 121 Ua;have gY:=fun W h=>Juy e A cap W (he.later h) Ua;clear cE
 by_cases h2:12<e.depth
 ·rw [if_pos h2] at hv;have HV:=Lib.hid hv;clear hv;unfold exV at fB gY ⊢
  go_enter Tryz.func145,Tryz.ntmps145
  go_wp2_with (first|(go_at_call 166;refine(fB _ Jb).mono ?_;rintro r w1 ⟨rfl,ac⟩;have ⟨ak,af⟩:=aft ac;(try simp at af);(try have bV:=lt0 w w1);(try have gq:=ltA w 1 w1);(try have ow:=ltA w 2 w1);(try have ns:=lt0 wr w1);(try have nt:=ltA wr 1 w1))|(go_at_call 167;refine(gY _ Jb).mono ?_;rintro r w1 ⟨rfl,ac⟩;have ⟨ak,af⟩:=aft ac;(try simp at af);(try have bV:=lt0 w w1);(try have gq:=ltA w 1 w1);(try have ow:=ltA w 2 w1);(try have ns:=lt0 wr w1);(try have nt:=ltA wr 1 w1)))
  exact Udf
 rw [if_neg h2] at hv;have iC:=fun W h=>Jtn e A cap W (he.later h)
 cases h3:e.formed
 ·rw [h3,if_neg Ul] at hv;exact Ufc
 ·rw [h3,if_pos rfl] at hv;exact Ufc
theorem Zq:(Tryz.prog.info? 9).map (fun i=>(i.zero,i.size,i.bytes))=some (some (.string ⟨#[]⟩),1,16):=Ug
theorem Jv4 (n:Int) (w:World):Calls Tryz.prog 150 #[.int .i32 n] w fun r w'=>r = .returned (.string (Ja6 n))/\w=w':=by
 go_enter Tryz.func150,Tryz.ntmps150
 go_wp2_with fail
 all_goals (go_ret;exact⟨Kk (by simp_all [Ja6]),rfl⟩)
theorem Jyv {e:Ex} (hs:e.showB.size<=100000000) {A:Option Addr} {cap:Nat} {w:World} (he:Jt w e A cap)
  (bY:∀W,Jt W e A cap->Calls Tryz.prog 131 #[exV e A cap] W fun r w'=>r = .returned (.string e.showB)/\Below W.heap.size W w') :
  Calls Tryz.prog 148 #[exV e A cap] w fun r w'=>r = .returned (.string e.partB)/\Below w.heap.size w w':=by
 have hl:=he.len;unfold maxLen at hl;have hv:e.partB=brk e.kind e.showB:=rfl;unfold brk at hv;have az:=fun W h=>bY W (he.later h);unfold exV at az ⊢
 by_cases hk:e.kind=1\/e.kind=2\/e.kind=3\/e.kind=8\/e.kind=9
 ·rw [if_pos hk] at hv;have HV:=Lib.hid hv;clear hv
  rcases hk with hk|hk|hk|hk|hk
  ·have k1:(e.kind == 1)=true:=Ud;exact Ube
  ·have k1:(e.kind == 1)=false:=Ud;have k2:(e.kind == 2)=true:=Ud;exact Ube
  ·have k1:(e.kind == 1)=false:=Ud;have k2:(e.kind == 2)=false:=Ud;have k3:(e.kind == 3)=true:=Ud;exact Ube
  ·have k1:(e.kind == 1)=false:=Ud;have k2:(e.kind == 2)=false:=Ud;have k3:(e.kind == 3)=false:=Ud;have k8:(e.kind == 8)=true:=Ud;exact Ube
  ·have k1:(e.kind == 1)=false:=Ud;have k2:(e.kind == 2)=false:=Ud;have k3:(e.kind == 3)=false:=Ud;have k8:(e.kind == 8)=false:=Ud;have k9:(e.kind == 9)=true:=Ud;exact Ube
 ·rw [if_neg hk] at hv;have HV:=Lib.hid hv;clear hv;have k1:(e.kind == 1)=false:=Uj;have k2:(e.kind == 2)=false:=Uj;have k3:(e.kind == 3)=false:=Uj;have k8:(e.kind == 8)=false:=Uj;have k9:(e.kind == 9)=false:=Uj
  go_enter Tryz.func148,Tryz.ntmps148
  go_wp2_with (first|(go_at_call 131;refine(az _ Jb).mono ?_;rintro r w1 ⟨rfl,ac⟩;have ⟨ak,af⟩:=aft ac;(try simp at af)))
  exact Uef
end Go.Proofs.YtknfcamdfdfoeaaGreatDoor
