/- Lemmas. -/
import Derived.Test.YtdgjplldlfeolaaGreatDoorMac
import Derived.Test.YtdgjplldlfeolaaGreatDoorY28
import Derived.Test.YtdgjplldlfeolaaGreatDoorY29
set_option linter.unusedVariables false
set_option linter.unusedSimpArgs false
set_option maxRecDepth 100000
set_option maxHeartbeats 64000000
namespace Go.Proofs.YtdgjplldlfeolaaGreatDoor
open Go.RowKit Go.Sort Go.Maps Go.ChangeMaps Go.WideMaps
theorem Qd.toG {P:Program} {k e:TypeId} {K:Type} {ok:K->Prop} {kl:K->Lit} {W:World} {b n c:Nat} {f:K->Option Int} (h:Qd P k (plainElem P e) ok kl okI (Lit.int .i32) 0 W b n f c):Q3 P k e .i32 ok kl W b n f c:=by
 obtain⟨D,h1,h2,h3,h4⟩:=h;exact⟨D,h1,h2,h3,fun x hx=>(h4 x hx).1⟩
theorem Jfw.plan {W:World} {X Bs Bt Bf:Nat} {L:List Va} {cs:List Ce} {A:Option Addr} {cap:Nat} (h:Jfw W X Bs Bt Bf L cs A cap) (hn:(L.map (·.name)).Nodup) (hf:∀d,okC d->(Jeg cs d).getD 0=Kg cs d):Jb1 W X Bs Bf (Xu L) (Kg cs):=by
 obtain⟨c,gM⟩:=h.flags;exact⟨h.c0,h.c2,⟨_,_,_,h.slots.toG,fun s _=>by rw [Jrw s L hn];rfl⟩,⟨_,_,_,gM.toG,hf⟩⟩
theorem Jfw.later {W W':World} {X Bs Bt Bf:Nat} {L:List Va} {cs:List Ce} {A:Option Addr} {cap:Nat} (h:Jfw W X Bs Bt Bf L cs A cap) (hb:Below W.heap.size W W'):Jfw W' X Bs Bt Bf L cs A cap:=by
 obtain⟨c0,c1,c2,c3,s,k,⟨c,f⟩⟩:=h;exact⟨Ja hb c0,Ja hb c1,Ja hb c2,Ja hb c3,s.bel hb,k.bel hb,⟨c,f.bel hb⟩⟩
end Go.Proofs.YtdgjplldlfeolaaGreatDoor
