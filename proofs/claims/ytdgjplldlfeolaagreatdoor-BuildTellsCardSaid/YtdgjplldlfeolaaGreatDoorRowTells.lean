/- BuildTells: for any texts and versions the call returns true, and the argument reads as it did, where clocks.always holds what the program's text lays. No condition of our own. -/
import Derived.Test.YtdgjplldlfeolaaGreatDoorMac
import Derived.Test.YtdgjplldlfeolaaGreatDoorY11
import Derived.Test.YtdgjplldlfeolaaGreatDoorY51
import Derived.SevenTiedAt
import Derived.ChangeMaps5
set_option linter.unusedVariables false
set_option linter.unusedSimpArgs false
set_option maxRecDepth 100000
set_option maxHeartbeats 64000000
namespace Go.Proofs.YtdgjplldlfeolaaGreatDoor
open Go.ChangeShapes Go.WideShapes Go.ChangeAt Go.WideMaps Go.WideElems Go.RowKit
theorem Kqv:Tryz.prog.cellsOf 22=1:=by kernel_rfl
theorem Krn:Tryz.prog.cellsOf 46=5:=by kernel_rfl
theorem Kr2 {k:Int} (h:(Lit.int .u32 k).wf=true):0<=k/\k<4294967296:=by
 simp [Lit.wf,IntKind.min,IntKind.max,IntKind.signed,IntKind.bits] at h;omega
theorem Krr {H:Type} {enc:TypeId×Value->H} {w:World} {spare:Nat->Bool} {held:Bool} {base:Nat} {v:Value} {d:DataW H} {ps:List MemPlace} (hv:Value.okWide Tryz.prog w .any base 46 v) (h:DataW.Trod enc Tryz.prog w 0 spare held 46 v d ps) :
  ∃(a b c:ByteArray) (m n:Int),v = .agg #[.string a,.string b,.string c,.int .u32 m,.int .u32 n]/\(0<=m/\m<4294967296)/\0<=n/\n<4294967296:=by
 obtain⟨cs,rfl,cE⟩:=okWide_struct Tryz.underlying46 hv;obtain⟨fuel,hf⟩:=h;obtain⟨cs⟩:=cs;obtain⟨xs,n,rfl,hx,ai,lB,hg⟩:=DataW.trod_struct Tryz.underlying46 hf;rw [Krn] at ai;simp only [Value.cells] at ai hg
 match cs,ai,xs,lB with
 | [c0,c1,c2,c3,c4],_,[y0,y1,y2,y3,y4],_=>
  have g0:DataW.trod enc Tryz.prog w 0 spare held n 9 (([c0,c1,c2,c3,c4].drop 0).take (Tryz.prog.cellsOf 9))=some y0:=hg 0 _ rfl;rw [Ja1] at g0;have g1:DataW.trod enc Tryz.prog w 0 spare held n 9 (([c0,c1,c2,c3,c4].drop 1).take (Tryz.prog.cellsOf 9))=some y1:=hg 1 _ rfl;rw [Ja1] at g1;have g2:DataW.trod enc Tryz.prog w 0 spare held n 9 (([c0,c1,c2,c3,c4].drop 2).take (Tryz.prog.cellsOf 9))=some y2:=hg 2 _ rfl;rw [Ja1] at g2;have g3:DataW.trod enc Tryz.prog w 0 spare held n 22 (([c0,c1,c2,c3,c4].drop 3).take (Tryz.prog.cellsOf 22))=some y3:=hg 3 _ rfl;rw [Kqv] at g3;have g4:DataW.trod enc Tryz.prog w 0 spare held n 22 (([c0,c1,c2,c3,c4].drop 4).take (Tryz.prog.cellsOf 22))=some y4:=hg 4 _ rfl;rw [Kqv] at g4;obtain⟨a,ha,_,_⟩:=DataW.trod_string Tryz.underlying9 g0;obtain⟨b,hb,_,_⟩:=DataW.trod_string Tryz.underlying9 g1;obtain⟨c,hc,_,_⟩:=DataW.trod_string Tryz.underlying9 g2;obtain⟨k,hk,_,wk⟩:=DataW.trod_int Tryz.underlying22 g3;obtain⟨l,hl,_,wl⟩:=DataW.trod_int Tryz.underlying22 g4;simp at ha hb hc hk hl;subst ha hb hc hk hl;exact⟨a,b,c,k,l,rfl,Kr2 wk,Kr2 wl⟩
theorem Ksk:Tryz.prog.readableRec 46=true:=by kernel_rfl
theorem Ks0:46<Tryz.prog.types.size:=of_decide_eq_true (by kernel_rfl)
theorem buildTells_lifted (os:Os) (started:os.Started) (H:Type) (enc:TypeId×Value->H) :
  ReturnsInHanded {} Tryz.checked os 4 .any (fun w args=>(Rows.buildTellsSpec.pre enc Tryz.prog Tryz.f4 [] false w args/\laidMetH Tryz.prog Jk4 w)/\sizedMet enc Tryz.prog Tryz.f4 (OpenSpec.ofChange Rows.buildTellsSpec) false w args)
   (Rows.buildTellsSpec.post enc Tryz.prog Tryz.f4 false true false false):=by
 refine returnsInHanded_of_change_and (C:=Tryz.checked) (X:=fun w _=>laidMetH Tryz.prog Jk4 w) (fun _ _ _ hh h=>h.of_heap hh) Tryz.own started (by kernel_rfl) Tryz.func4
  (ChangeSpec.witness_shaped (enc:=enc) (C:=Tryz.checked) (os:=os) (X:=fun w _=>laidMetH Tryz.prog Jk4 w) false (World.doorLaid Tryz.prog 400 os) #[.agg #[.string ⟨#[]⟩,.string ⟨#[]⟩,.string ⟨#[]⟩,.int .u32 0,.int .u32 0]] 8 rfl (World.shaped_of_RefB (by kernel_rfl) (by kernel_rfl)) (by kernel_rfl) (by kernel_rfl) (by kernel_rfl) (Jww os _)) ?_
 intro W base args ds gs before sn hW _ _ hL _;have jP:∀(j:Nat) t v,Tryz.f4.params[j]?=some t->args[j]?=some v->Value.okWide Tryz.prog W .any base t v:=sn;have lE:=hW;obtain⟨p,q,hA0,hV,rfl,eh,nq⟩:=hW;have hA:DataW.TrodAll enc Tryz.prog W 0 (fun _=>true) true Tryz.f4.params.toList args.toList ds p:=hA0;rw [Tryz.params4] at hA jP;obtain⟨v0,d0,rfl,rfl,h0⟩:=trodAll_one hA;obtain⟨rfl,rfl⟩:=trodVars_none hV;obtain⟨sa,sb,sc,fro,ver,rfl,hfro,hver⟩:=Krr (jP 0 46 v0 rfl rfl) h0;clear hA0 sn;simp only [List.append_nil] at lE;have am:∀x∈p,x.block<W.heap.size:=fun x hx=>lE.lt x hx;refine(Kr9 sa sb sc fro ver W (Jyw hL) hfro hver).mono fun r W' ⟨hr,hb⟩=>?_;subst hr
 exact⟨_,rfl,Jn4 (pa:=p) (pv:=[]) lE (fun _ _ _=>trodAll_mk1 (shut_bool Tryz.underlying4 _))
  (fun sp hsp=>trodAll_mk1 (WideElems.Trod_stays Tryz.laidOut Ksk Ks0 h0 (fun x hx=>hb.same (am x hx)) (fun x hx=>hsp x hx))) (fun _ _=>rfl) (by simp)
  hb (ok_one (by kernel_rfl) rfl (okWide_bool_mk Tryz.underlying4 _))⟩
theorem buildTells_holds:Rows.BuildTellsSaid:=
 OpenClaim.holds_of_wide 4 Tryz.f4 rfl rfl rfl rfl rfl rfl rfl ⟨rfl,rfl,rfl,rfl,rfl⟩ rfl rfl rfl rfl rfl (by kernel_rfl) Tryz.func4 (by kernel_rfl)
  (of_decide_eq_true (by kernel_rfl)) (by unfold Func.isWrapper;first|(rw [if_pos (by decide +kernel)];kernel_rfl)|(rw [if_neg (by decide +kernel)];exact⟨rfl,rfl⟩))
  (fun os started H enc _=>buildTells_lifted os started H enc)
theorem buildTells_card:Rows.BuildTellsCardSaid:=
 Claim7.holds_tied_plain_at .later [] [.data] true Rows.buildTellsCard.stood.harness false
  buildTells_holds (fun _ h=>by cases h) (by kernel_rfl) (fun _ h=>by cases h) buildTells_row_tie rfl ⟨rfl,rfl⟩ (by kernel_rfl) rfl
  (fun f fn hf lF=>by
   obtain rfl:f=4:=Option.some.inj ((show Tryz.prog.funcNamed Rows.buildTellsRow.func=some 4 by kernel_rfl).symm.trans hf) |>.symm;obtain rfl:fn=Tryz.f4:=(Option.some.inj (Tryz.func4.symm.trans lF)).symm
   exact⟨by kernel_rfl,fun j t ht=>by
    rw [Tryz.params4] at ht;have hm:t∈[46]:=by simpa using Array.mem_of_getElem? ht
    have eF:([46].all fun u=>!Tryz.prog.wantsStandIn u)=true:=by kernel_rfl
    exact(show Tryz.prog.wantsStandIn t=false by simpa using List.all_eq_true.1 eF t hm)⟩)
  (by kernel_rfl)
#print axioms buildTells_card
end Go.Proofs.YtdgjplldlfeolaaGreatDoor
