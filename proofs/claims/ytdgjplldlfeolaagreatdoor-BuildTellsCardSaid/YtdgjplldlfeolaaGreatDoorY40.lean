/- Lemmas. -/
import Derived.Test.YtdgjplldlfeolaaGreatDoorMac
import Derived.Test.YtdgjplldlfeolaaGreatDoorY36
import Derived.Deep.CutRange
import Derived.Test.YtdgjplldlfeolaaGreatDoorY22
import Derived.Test.YtdgjplldlfeolaaGreatDoorY09
import Derived.Test.YtdgjplldlfeolaaGreatDoorY08
import Derived.Test.YtdgjplldlfeolaaGreatDoorY17
import Derived.Deep.RegionLaw
import Derived.BigRegion
set_option linter.unusedVariables false
set_option linter.unusedSimpArgs false
set_option maxRecDepth 100000
set_option maxHeartbeats 64000000
namespace Go.Proofs.YtdgjplldlfeolaaGreatDoor
open Go.RowKit Go.Sort
def imC (m:Im) (a:ImA):List Value:=[.int .u32 m.ver,.int .u32 m.fro,.int .i64 m.eld,.int .i64 m.fr.s,.int .i64 m.fr.o,.int .i64 m.fr.n,.int .i64 m.fr.i,.int .i64 m.fr.u,.slice a.A1 m.first.length a.c1,.slice a.A2 m.step.length a.c2,.slice a.A3 m.move.length a.c3,.int .i64 m.sf,.int .i64 m.mf]
def ImB (W:World) (g:Nat) (l:List Value):Prop:=∀(o:Nat) (u:Value),l[o]?=some u->W.cell? ⟨g,o,none⟩=some u
theorem ImB.later {W W':World} {g:Nat} {l:List Value} (h:ImB W g l) (hb:Below W.heap.size W W'):ImB W' g l:=fun o u ho=>Ja hb (h o u ho)
theorem ImB.new (W:World) (l:List Value) (t:TypeId):ImB (W.alloc (.cells l.toArray t)) W.heap.size l:=fun o u ho=>(Kw W l.toArray t o).trans (by simpa using ho)
end Go.Proofs.YtdgjplldlfeolaaGreatDoor
