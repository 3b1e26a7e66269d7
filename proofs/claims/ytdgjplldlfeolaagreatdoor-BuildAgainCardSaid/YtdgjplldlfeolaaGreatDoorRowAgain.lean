/- BuildAgain: for every text and every version the call returns true, and the arguments read as they did, where clocks.always holds what the program's text lays. No condition of our own. -/
import Derived.Test.YtdgjplldlfeolaaGreatDoorZ18
import Derived.Test.YtdgjplldlfeolaaGreatDoorZ50
import Derived.SevenTiedAt
import Derived.ChangeMaps5
set_option linter.unusedVariables false
set_option linter.unusedSimpArgs false
set_option maxRecDepth 100000
set_option maxHeartbeats 64000000
namespace Go.Proofs.YtdgjplldlfeolaaGreatDoor
open Go.ChangeShapes Go.WideShapes Go.ChangeAt Go.WideMaps Go.WideElems Go.RowKit
theorem buildAgain_lifted (os:Os) (started:os.Started) (H:Type) (enc:TypeId×Value->H) :
  ReturnsInHanded {} Tryz.checked os 3 .any (fun w args=>(Rows.buildAgainSpec.pre enc Tryz.prog Tryz.f3 [] false w args/\laidMetH Tryz.prog Jk4 w)/\sizedMet enc Tryz.prog Tryz.f3 (OpenSpec.ofChange Rows.buildAgainSpec) false w args)
   (Rows.buildAgainSpec.post enc Tryz.prog Tryz.f3 false true false false):=by
 refine returnsInHanded_of_change_and (C:=Tryz.checked) (X:=fun w _=>laidMetH Tryz.prog Jk4 w) (fun _ _ _ hh h=>h.of_heap hh) Tryz.own started (by kernel_rfl) Tryz.func3
  (ChangeSpec.witness_shaped (enc:=enc) (C:=Tryz.checked) (os:=os) (X:=fun w _=>laidMetH Tryz.prog Jk4 w) false (World.doorLaid Tryz.prog 400 os) #[.string ⟨#[]⟩,.int .u32 0] 8 rfl (World.shaped_of_RefB (by kernel_rfl) (by kernel_rfl)) (by kernel_rfl) (by kernel_rfl) (by kernel_rfl) (Jww os _)) ?_
 intro W base args ds gs before sn hW _ _ hL _;have jP:∀(j:Nat) t v,Tryz.f3.params[j]?=some t->args[j]?=some v->Value.okWide Tryz.prog W .any base t v:=sn;have lE:=hW;obtain⟨p,q,hA0,hV,rfl,eh,nq⟩:=hW;have hA:DataW.TrodAll enc Tryz.prog W 0 (fun _=>true) true Tryz.f3.params.toList args.toList ds p:=hA0;rw [Tryz.params3] at hA jP;obtain⟨v0,v1,d0,d1,p0,p1,rfl,rfl,hpp,h0,h1⟩:=trodAll_two hA;obtain⟨rfl,rfl⟩:=trodVars_none hV;obtain⟨s,rfl,rfl,rfl,cE⟩:=Go.ChangeMaps.open_string Tryz.underlying9 (jP 0 9 v0 rfl rfl) h0;obtain⟨n,rfl,rfl,rfl,hwf⟩:=open_int Tryz.underlying22 (jP 1 22 v1 rfl rfl) h1;clear hA0 sn;simp only [List.append_nil] at lE
 have hn:0<=n/\n<4294967296:=by
  have h2:=hwf;simp [Lit.wf,IntKind.min,IntKind.max,IntKind.signed,IntKind.bits] at h2;omega
 refine(Kmp s n W (Jyw hL) hn).mono fun r W' ⟨hr,hb⟩=>?_;subst hr
 exact⟨_,rfl,Jn4 (pa:=[] ++ []) (pv:=[]) lE (fun _ _ _=>trodAll_mk1 (shut_bool Tryz.underlying4 _))
  (fun sp hsp=>trodAll_mk2 (Go.ChangeMaps.shut_string Tryz.underlying9 cE) (shut_int Tryz.underlying22 hwf)) (fun _ _=>rfl) (by simpa using hpp)
  hb (ok_one (by kernel_rfl) rfl (okWide_bool_mk Tryz.underlying4 _))⟩
theorem buildAgain_holds:Rows.BuildAgainSaid:=
 OpenClaim.holds_of_wide 3 Tryz.f3 rfl rfl rfl rfl rfl rfl rfl ⟨rfl,rfl,rfl,rfl,rfl⟩ rfl rfl rfl rfl rfl (by kernel_rfl) Tryz.func3 (by kernel_rfl)
  (of_decide_eq_true (by kernel_rfl)) (by unfold Func.isWrapper;first|(rw [if_pos (by decide +kernel)];kernel_rfl)|(rw [if_neg (by decide +kernel)];exact⟨rfl,rfl⟩))
  (fun os started H enc _=>buildAgain_lifted os started H enc)
theorem buildAgain_card:Rows.BuildAgainCardSaid:=
 Claim7.holds_tied_plain_at .later [] [.data] true Rows.buildAgainCard.stood.harness false
  buildAgain_holds (fun _ h=>by cases h) (by kernel_rfl) (fun _ h=>by cases h) buildAgain_row_tie rfl ⟨rfl,rfl⟩ (by kernel_rfl) rfl
  (fun f fn hf lF=>by
   obtain rfl:f=3:=Option.some.inj ((show Tryz.prog.funcNamed Rows.buildAgainRow.func=some 3 by kernel_rfl).symm.trans hf) |>.symm;obtain rfl:fn=Tryz.f3:=(Option.some.inj (Tryz.func3.symm.trans lF)).symm
   exact⟨by kernel_rfl,fun j t ht=>by
    rw [Tryz.params3] at ht;have hm:t∈[9,22]:=by simpa using Array.mem_of_getElem? ht
    have eF:([9,22].all fun u=>!Tryz.prog.wantsStandIn u)=true:=by kernel_rfl
    exact(show Tryz.prog.wantsStandIn t=false by simpa using List.all_eq_true.1 eF t hm)⟩)
  (by kernel_rfl)
#print axioms buildAgain_card
end Go.Proofs.YtdgjplldlfeolaaGreatDoor
