/- Lemmas. -/
import Derived.Test.YtdgjplldlfeolaaGreatDoorMac
import Derived.Test.YtdgjplldlfeolaaGreatDoorY16
import Derived.Test.YtdgjplldlfeolaaGreatDoorY13
import Derived.Test.YtdgjplldlfeolaaGreatDoorY17
import Derived.Deep.CutRange
import Derived.RegionTactic
set_option linter.unusedVariables false
set_option linter.unusedSimpArgs false
set_option maxRecDepth 100000
set_option maxHeartbeats 64000000
namespace Go.Proofs.YtdgjplldlfeolaaGreatDoor
open Go.RowKit Go.Sort
theorem Kg5.up {B B':Nat} {W W':World} {l:List Tk} {A:Option Addr} {cap:Nat} (h:Kg5 B W l A cap) (hB:B<=B') (hb:Below W.heap.size W W'):Kg5 B' W' l A cap:=
 ⟨h.1,h.2.1,fun hl=>by
  obtain⟨b,off,hA,am,hr⟩:=h.2.2 hl;exact⟨b,off,hA,Ua,fun k t ht=>⟨Ja hb (hr k t ht).c0,Ja hb (hr k t ht).c1,Ja hb (hr k t ht).c2,Ja hb (hr k t ht).c3⟩⟩⟩
theorem Ktf {w1:World} {ts:List Tk} {Al:Option Addr} {cl:Nat} (t:TypeId) (n:Nat) (hn:n<=ts.length) (h:Kg5 w1.heap.size w1 ts Al cl):X2 w1.heap.size ts Al cl (w1.alloc (.cells #[.slice Al ts.length cl,.int .i64 n,.bool false] t)) ⟨n,false⟩:=
 ⟨Gd,Gd,Gd,Uc,Uc,Uc,Kgw h _ (J6.bel (Jc (Nt) _)),hn⟩
theorem J2 {base:Nat} (W:World):Off base none W (fun V=>Jt V Ex.zero none 0):=Kex _ _ fun V=>Ke2 V Uo
theorem Ks4 {base:Nat} {w:World} {P:World->Prop} (h:Off base none w P):Off base none w.drew P:=h.later (Jh (Nt))
def Krq (W:World) (ts:List Tk) (at_:Nat) (r:Ending) (W':World):Prop:=
 (∃(x:Ex) (n:Nat) (e m:Int) (Ax:Option Addr) (cx:Nat),r = .returned (.tuple #[exV x Ax cx,.int .i64 n,.int .i64 e,.int .i64 m])/\Off W.heap.size none W' (fun V=>Jt V x Ax cx)/\x.OK/\(e=0->at_<=n/\n<=ts.length))/\Below W.heap.size W W'
theorem Kre {ts:List Tk} (ai:ts.length<=100000) (aw:Kge ts) (at_:Nat):∃R:Ex×St,(∀ {B:Nat} {A:Option Addr} {cap:Nat} {w:World},X2 B ts A cap w ⟨at_,false⟩->Calls Tryz.prog 43 #[.pointer (some ⟨B,0,none⟩)] w (Kdq B ts A cap w R))/\Keo ts ⟨at_,false⟩ R.2/\R.1.OK:=by
 have h1:∀f,f=Kfc ts->∀ {B:Nat} {A:Option Addr} {cap:Nat} {w:World},X2 B ts A cap w ⟨at_,false⟩->Calls Tryz.prog 43 #[.pointer (some ⟨B,0,none⟩)] w (Kdq B ts A cap w (K3 ts f .expr ⟨at_,false⟩)):=fun f hf _ _ _ _ h=>by
  subst hf;exact Kog h ai
 obtain⟨f,hf⟩:∃f,f=Kfc ts:=⟨_,rfl⟩;exact⟨K3 ts f .expr ⟨at_,false⟩,h1 f hf,Ke3 ts f .expr _,Kmz aw f .expr _ trivial⟩
theorem Ksc {ts:List Tk} {A:Option Addr} {cap:Nat} (W:World) (h:Kg5 W.heap.size W ts A cap) (ai:ts.length<=100000) (aw:Kge ts) (at_:Nat) (aY:at_<=ts.length) (fin:Int) :
  Calls Tryz.prog 90 #[.slice A ts.length cap,.int .i64 at_,.int .i64 fin] W (Krq W ts at_):=by
 obtain⟨R,lG,bB,hxo⟩:=Kre ai aw at_;obtain⟨x,st'⟩:=R;unfold Kdq Ke9 exV at lG;dsimp only at lG bB hxo;have eN:=bB.1;have aG:=bB.2 aY;dsimp only at eN aG;have d0:decide ((at_:Int)<0)=false:=Uh;have d1:decide ((ts.length:Int)<(at_:Int))=false:=Ui;have fk:Below W.heap.size W (W.alloc (.cells #[.int .i64 0,.int .i32 0,.string ⟨#[]⟩,.slice none 0 0] 73)):=Jc (Nt) _;have aP:=h.up (B':=(W.alloc (.cells #[.int .i64 0,.int .i32 0,.string ⟨#[]⟩,.slice none 0 0] 73)).heap.size) Uh fk;have wu:=Ktf 67 at_ aY aP;have cE:(W.alloc (.cells #[.int .i64 0,.int .i32 0,.string ⟨#[]⟩,.slice none 0 0] 73)).heap.size=W.heap.size+1:=Uh;rw [cE] at wu;have HPS:=Nf wu;unfold Krq;have aS:W.heap.size≠W.heap.size+1:=Ua;clear bB aP wu h aY aw cE fk
 cases hb:st'.bad
 ·go_enter Tryz.func90,Tryz.ntmps90
  go_upto_region 7 with (go_at_call 43;go_loud (refine(lG HPS.out).mono ?_;rintro r w2 ⟨⟨_,rfl,Ax,cx,rfl,fb⟩,gL,dz⟩;have br:=dz.size;(try simp at br);have dG:=lt0 W w2;have cA:=ltA W 1 w2;have aW:=K1 dz;have bS:=kfz dz;have b1:=gL.c1;have b2:=gL.c2;rw [hb] at b2;have z0:=Na w2 W.heap.size 0 0 ((aW _ _ aS Ud).trans Uc);have z1:=Nb w2 W.heap.size 1 (.int .i32 0) ((aW _ _ aS Ud).trans Uc);have z2:=Nb w2 W.heap.size 2 (.string ⟨#[]⟩) ((aW _ _ aS Ud).trans Uc);have z3:=Nb w2 W.heap.size 3 (.slice none 0 0) ((aW _ _ aS Ud).trans Uc);have zf:∀o,w2.frozen? ⟨W.heap.size,o,none⟩=false:=fun o=>(bS _ _ aS Ud).trans Uc))
  have aC:=Nd W w2 (J6.below (Jc (Jc (Nt) _) _) dz fun k hk=>(by show ¬k=W.heap.size+1;omega));have cm:=gL.lt;have hoff2:Off (W.heap.size+2) none w2 (fun V=>Jt V x Ax cx):=by simpa using fb
  have HOFF:=Nf hoff2;have HBW:=Nf aC;clear lG HPS gL dz aW bS fb hoff2 aC
  go_region
  all_goals
   go_wp2_with fail
   refine Nv (v:= .tuple #[exV x Ax cx,.int .i64 st'.pos,.int .i64 0,.int .i64 0]) (by simp [results,Tryz.results90,go_sem,exV, *]) rfl ?_;refine⟨⟨x,st'.pos,0,0,Ax,cx,rfl,?_,hxo,fun _=>⟨eN,aG⟩⟩,?_⟩
   ·exact Ks4 (Kgr HOFF.out Ua Ua _ _ _ _ _)
   ·exact Jh (Jc (Ke7 _ _ _ _ HBW.out (Ns _)) _)
 ·go_enter Tryz.func90,Tryz.ntmps90
  go_wp2_with (first
   | (go_at_call 43;go_loud (refine(lG HPS.out).mono ?_;rintro r w2 ⟨⟨_,rfl,Ax,cx,rfl,fb⟩,gL,dz⟩;have br:=dz.size;(try simp at br);have dG:=lt0 W w2;have cA:=ltA W 1 w2;have aW:=K1 dz;have bS:=kfz dz;have b1:=gL.c1;have b2:=gL.c2;rw [hb] at b2;have z0:=Na w2 W.heap.size 0 0 ((aW _ _ aS Ud).trans Uc);have z1:=Nb w2 W.heap.size 1 (.int .i32 0) ((aW _ _ aS Ud).trans Uc);have z2:=Nb w2 W.heap.size 2 (.string ⟨#[]⟩) ((aW _ _ aS Ud).trans Uc);have z3:=Nb w2 W.heap.size 3 (.slice none 0 0) ((aW _ _ aS Ud).trans Uc);have zf:∀o,w2.frozen? ⟨W.heap.size,o,none⟩=false:=fun o=>(bS _ _ aS Ud).trans Uc))
   | (go_at_call 19;go_loud (refine(Kfy (gL.alloc _) fin).mono ?_;rintro r w3 ⟨rfl,aM⟩;have kE:=Jg aM;have tx:=Jf aM;have fe:=aM.size;(try simp at fe);have kh:=lt0 W w3;have y0:=Na w3 W.heap.size 0 0 ((kE _ _ Ud).trans (J4 z0));have y1:=Nb w3 W.heap.size 1 (.int .i32 0) ((kE _ _ Ud).trans (J4 z1));have y2:=Nb w3 W.heap.size 2 (.string ⟨#[]⟩) ((kE _ _ Ud).trans (J4 z2));have y3:=Nb w3 W.heap.size 3 (.slice none 0 0) ((kE _ _ Ud).trans (J4 z3));have yf:∀o,w3.frozen? ⟨W.heap.size,o,none⟩=false:=fun o=>(tx _ _ Ud).trans (((Jf (Jc (Nt) _)) _ _ Ua).trans (zf o)))))
  have aC:=Nd W w2 (J6.below (Jc (Jc (Nt) _) _) dz fun k hk=>(by show ¬k=W.heap.size+1;omega));refine Nv (v:= .tuple #[exV Ex.zero none 0,.int .i64 ((0:Nat):Int),.int .i64 16,.int .i64 (Ke6 ts st'.pos fin)]) (by simp [results,Tryz.results90,go_sem,exV,Ex.zero,Ex.kind,Ex.n,Ex.name,Ex.sub, *]) rfl ?_;exact⟨⟨Ex.zero,0,16,_,none,0,rfl,J2 _,Kix,fun h=>absurd h Ug⟩,Ke7 _ _ _ _ (Jd (Jc aC _) aM) (Ns _)⟩
end Go.Proofs.YtdgjplldlfeolaaGreatDoor
