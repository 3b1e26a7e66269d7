/- GenCodes: for every program the call returns true, and the program reads as it did, where clocks.always holds what the program's text lays. No condition of our own. -/
import Derived.Test.YtknfcamdfdfoeaaGreatDoorMac
import Derived.Test.YtknfcamdfdfoeaaGreatDoorZ02
import Derived.Test.YtknfcamdfdfoeaaGreatDoorZ41
import Derived.SevenTiedAt
set_option linter.unusedVariables false
set_option linter.unusedSimpArgs false
set_option maxRecDepth 100000
set_option maxHeartbeats 64000000
namespace Go.Proofs.YtknfcamdfdfoeaaGreatDoor
open Go.ChangeShapes Go.WideShapes Go.ChangeAt Go.WideMaps Go.WideElems Go.RowKit
theorem genCodes_lifted (os:Os) (started:os.Started) (H:Type) (enc:TypeId×Value->H) :
  ReturnsInHanded {} Tryz.checked os 3 .any (fun w args=>(Rows.genCodesSpec.pre enc Tryz.prog Tryz.f3 [] false w args/\laidMetH Tryz.prog Jk4 w)/\sizedMet enc Tryz.prog Tryz.f3 (OpenSpec.ofChange Rows.genCodesSpec) false w args)
   (Rows.genCodesSpec.post enc Tryz.prog Tryz.f3 false true false false):=by
 refine returnsInHanded_of_change_and (C:=Tryz.checked) (X:=fun w _=>laidMetH Tryz.prog Jk4 w) (fun _ _ _ hh h=>h.of_heap hh) Tryz.own started (by kernel_rfl) Tryz.func3
  (ChangeSpec.witness_shaped (enc:=enc) (C:=Tryz.checked) (os:=os) (X:=fun w _=>laidMetH Tryz.prog Jk4 w) false (World.doorLaid Tryz.prog 400 os) #[.agg #[.string ⟨#[]⟩,.slice none 0 0,.slice none 0 0,.slice none 0 0,.slice none 0 0]] 8 rfl (World.shaped_of_RefB (by kernel_rfl) (by kernel_rfl)) (by kernel_rfl) (by kernel_rfl) (by kernel_rfl) (Jww os _)) ?_
 intro W base args ds gs before sn hW _ _ hL _;have jP:∀(j:Nat) t v,Tryz.f3.params[j]?=some t->args[j]?=some v->Value.okWide Tryz.prog W .any base t v:=sn;have lE:=hW;obtain⟨p,q,hA0,hV,rfl,eh,nq⟩:=hW;have hA:DataW.TrodAll enc Tryz.prog W 0 (fun _=>true) true Tryz.f3.params.toList args.toList ds p:=hA0;rw [Tryz.params3] at hA jP;obtain⟨v0,d0,rfl,rfl,h0⟩:=trodAll_one hA;obtain⟨rfl,rfl⟩:=trodVars_none hV;obtain⟨pr,pa,rfl,aY,aw⟩:=Jxw (jP 0 25 v0 rfl rfl) h0;clear hA0 sn;simp only [List.append_nil] at lE;have am:∀x∈p,x.block<W.heap.size:=fun x hx=>lE.lt x hx;refine(Joy pr pa W (Jyw hL) aY aw).mono fun r W' ⟨hr,hb⟩=>?_;subst hr
 exact⟨_,rfl,Jn4 (pa:=p) (pv:=[]) lE (fun _ _ _=>trodAll_mk1 (shut_bool Tryz.underlying4 _))
  (fun sp hsp=>trodAll_mk1 (WideElems.Trod_stays Tryz.laidOut Jsw Jto h0 (fun x hx=>hb.same (am x hx)) (fun x hx=>hsp x hx))) (fun _ _=>rfl) (by simp)
  hb (ok_one (by kernel_rfl) rfl (okWide_bool_mk Tryz.underlying4 _))⟩
theorem genCodes_holds:Rows.GenCodesSaid:=
 OpenClaim.holds_of_wide 3 Tryz.f3 rfl rfl rfl rfl rfl rfl rfl ⟨rfl,rfl,rfl,rfl,rfl⟩ rfl rfl rfl rfl rfl (by kernel_rfl) Tryz.func3 (by kernel_rfl)
  (of_decide_eq_true (by kernel_rfl)) (by unfold Func.isWrapper;first|(rw [if_pos (by decide +kernel)];kernel_rfl)|(rw [if_neg (by decide +kernel)];exact⟨rfl,rfl⟩))
  (fun os started H enc _=>genCodes_lifted os started H enc)
theorem genCodes_card:Rows.GenCodesCardSaid:=
 Claim7.holds_tied_plain_at .later [] [.data] true Rows.genCodesCard.stood.harness false
  genCodes_holds (fun _ h=>by cases h) (by kernel_rfl) (fun _ h=>by cases h) genCodes_row_tie rfl ⟨rfl,rfl⟩ (by kernel_rfl) rfl
  (fun f fn hf lF=>by
   obtain rfl:f=3:=Option.some.inj ((show Tryz.prog.funcNamed Rows.genCodesRow.func=some 3 by kernel_rfl).symm.trans hf) |>.symm;obtain rfl:fn=Tryz.f3:=(Option.some.inj (Tryz.func3.symm.trans lF)).symm
   exact⟨by kernel_rfl,fun j t ht=>by
    rw [Tryz.params3] at ht;have hm:t∈[25]:=by simpa using Array.mem_of_getElem? ht
    have eF:([25].all fun u=>!Tryz.prog.wantsStandIn u)=true:=by kernel_rfl
    exact(show Tryz.prog.wantsStandIn t=false by simpa using List.all_eq_true.1 eF t hm)⟩)
  (by kernel_rfl)
#print axioms genCodes_card
end Go.Proofs.YtknfcamdfdfoeaaGreatDoor
