/- Lemmas. -/
import Derived.Test.YtdgjplldlfeolaaGreatDoorZ24
import Derived.Test.YtdgjplldlfeolaaGreatDoorZ23
import Derived.Deep.RegionLaw
import Derived.Test.YtdgjplldlfeolaaGreatDoorZ01
import Derived.Laws.OwnMore
set_option linter.unusedVariables false
set_option linter.unusedSimpArgs false
set_option maxRecDepth 100000
set_option maxHeartbeats 64000000
namespace Go.Proofs.YtdgjplldlfeolaaGreatDoor
open Go.RowKit Go.Sort
theorem Kiu (k:Nat):∀s∈Kdx k,s≠⟨#[]⟩:=by
 have ne:∀(c:UInt8) (l:List UInt8),(⟨(c :: l).toArray⟩:ByteArray)≠⟨#[]⟩:=fun c l h=>by injection h with h;simp at h
 intro s hs;unfold Kdx at hs
 repeat' split at hs
 all_goals
  simp only [List.mem_cons,List.not_mem_nil,or_false] at hs
  repeat' rcases hs with rfl|hs
  all_goals first
   | exact ne _ _
   | (subst hs;exact ne _ _)
theorem Kmn (ts:List Tk) (st:St):∀(l:List ByteArray),(∀s∈l,s≠⟨#[]⟩)->(Kd7 ts st l).1≠⟨#[]⟩->st.pos<(Kd7 ts st l).2.pos
 | [],_,h0=>absurd rfl h0
 | s :: l,h,h0=>by
  unfold Kd7 at h0 ⊢
  split
  ·simp
  ·rename_i hs;rw [if_neg hs] at h0;exact Kmn ts st l (fun x hx=>h x (by simp [hx])) h0
theorem Kn0 {base b0 g:Nat} {w:World} {P:World->Prop} (h:Off b0 none w P) (hb:base<=b0) (hg:g<b0):Off base (some g) w P:=h.fresh hb (fun _ _ _=>rfl) (Nat.le_refl _) fun k hk=>by injection hk with hk;omega
theorem Klk {B:Nat} {ts:List Tk} {A:Option Addr} {cap f:Nat} {st:St} {W:World} (ih:Kgx B ts A cap f) (h:X2 B ts A cap W st) (hf:12 * (ts.length-st.pos)+3<f+1) :
  Calls Tryz.prog 86 #[.pointer (some ⟨B,0,none⟩),.int .i64 6] W (Kdq B ts A cap W (K3 ts (f+1) (.level 6) st)):=by
 have cm:=h.lt;have aS:W.heap.size≠B:=by omega
 have gG:=fun W' (hp:X2 B ts A cap W' st)=>(ih st W' hp).2.2.1 (by omega);rw [K3,if_pos rfl];generalize K3 ts f .unary st=R at gG ⊢;unfold Kdq Ke9 exV at gG;have HP:=Lib.hid h;clear ih h
 go_enter Tryz.func86,Tryz.ntmps86
 go_wp2_with (go_at_call 107;go_loud (refine(gG _ (HP.out.alloc _)).mono ?_;rintro r w1 ⟨⟨_,rfl,A1,c1,rfl,ln⟩,ii,cD⟩;have aW:=K1 cD;have bS:=kfz cD;have hz:=cD.size;(try simp at hz);have dG:W.heap.size<w1.heap.size:=(by omega)))
 refine bodyPost_ret (v:=exV R.1 A1 c1) (by simp [results,Tryz.results86,go_sem,exV, *]) rfl ?_;exact⟨⟨_,rfl,A1,c1,rfl,Kgf ln (by simp) (by simp) _ _ _ _⟩,Kd0 ii cm _ _ _ _,Kdp (K2 cD) (Nat.le_refl _) _ _ _ _⟩
theorem Klq {B:Nat} {ts:List Tk} {A:Option Addr} {cap f k:Nat} {st:St} {W:World} (ih:∀f'<f+1,Kgx B ts A cap f') (h:X2 B ts A cap W st) (ai:ts.length<=100000) (hk:k<6) (hf:12 * (ts.length-st.pos)+(9-k)<f+1) :
  Calls Tryz.prog 86 #[.pointer (some ⟨B,0,none⟩),.int .i64 k] W (Kdq B ts A cap W (K3 ts (f+1) (.level k) st)):=by
 have cm:=h.lt;have nn:=h.le;have aS:W.heap.size≠B:=by omega
 have hki:(k:Int)<6:=by omega
 have cu:((k:Int) == 6)=false:=by simp;omega
 have ek:((k+1:Nat):Int)=(k:Int)+1:=by omega
 have hwr:IntKind.i64.wrap ((k:Int)+1)=(k:Int)+1:=IntWalk.i64_in _ (by omega);have HWR:=Lib.hid hwr;have hlv:=fun W' (hp:X2 B ts A cap W' st)=>(ih f (by omega) st W' hp).2.1 (k+1) (by omega) (by omega);have hg:=Ke3 ts f (.level (k+1)) st;rw [K3,if_neg (by omega)];generalize K3 ts f (.level (k+1)) st=C at hlv hg ⊢;obtain⟨x0,st0⟩:=C;have hga:=hg.1;have hgb:=hg.2 nn;obtain⟨R,hR⟩:∃R,R=K3 ts f (.loop k x0) st0:=⟨_,rfl⟩;dsimp only at hlv hga hgb ⊢;rw [<-hR];rw [ek] at hlv;unfold Kdq Ke9 exV at hlv;clear hg hwr;have HP:=Lib.hid h;clear h;have vi:=Lib.hid hR;clear hR;have IH:=Lib.hid ih;clear ih
 go_enter Tryz.func86,Tryz.ntmps86
 go_wp2_with (go_at_call 86;go_loud (refine(hlv _ (HP.out.alloc _)).mono ?_;rintro r w1 ⟨⟨_,rfl,A1,c1,rfl,ln⟩,ii,cD⟩))
 have db:=Ked.start (t:=73) ii cm cD (by simpa using ln);clear hlv ln ii cD;refine Kd (fun _:World=>True) 5 2 (by kernel_rfl) (by rfl) ?_;simp only [List.size_toArray,List.length_cons,List.length_nil,Nat.zero_add,Nat.reduceAdd];refine Ji 0 trivial ?_;refine Ji 1 trivial ?_;refine Ji 2 trivial ?_;refine Ji 3 trivial ?_;refine Kb 4 ?_;refine Jj fun K hK=>?_;go_simp;refine(Ki9 k hk _).mono ?_;rintro r w2 ⟨⟨Al,rfl,hol⟩,ij⟩;dsimp only;have wZ:=db.drew.on (J6.bel ij) (db.drew.ps.later ij);refine hK _ _ ⟨trivial,?_⟩;clear hK K
 try simp only [Act.put,sa1,sa2,sa3]
 have hBm:B<(w1.alloc (.cells #[.int .i64 x0.kind,.int .i32 x0.n,.string x0.name,.slice A1 x0.sub.length c1] 73)).drew.heap.size:=Nat.lt_trans (db.Bz) (Nat.lt_trans db.zg db.glt);refine Kh (by kernel_rfl) ?_;refine Qx 5 ?_;refine Jj fun K hK=>?_;go_simp;refine(Kj0 wZ.ps ai (Kdx k) Al _ (Kj3 hol hBm)).mono ?_;rintro r wy ⟨rfl,hpy,hky⟩;dsimp only;have hfy:=wZ.on hky hpy;refine hK _ _ ?_;clear hK K
 try simp only [Act.put,sa1,sa2,sa3]
 clear hol ij hky wZ hBm;refine Qx 6 ?_;refine Jj fun K hK=>?_;go_simp;refine hK _ _ ?_;clear hK K
 try simp only [Act.put,sa1,sa2,sa3]
 refine Ki (by kernel_rfl) ?_;clear db hpy
 go_wp2_with fail
 go_loopg [6] f (fun kk sv wr=>∃x st' Ax cx,12 * (ts.length-st'.pos)<kk/\kk<=f/\sv = .string (Kd7 ts st' (Kdx k)).1/\K3 ts kk (.loop k x) st'=R/\Ked B W.heap.size w1.heap.size ts A cap W wr x (Kd7 ts st' (Kdx k)).2 Ax cx)
 case atStart=>exact⟨x0,st0,A1,c1,by omega,Nat.le_refl _,rfl,vi.out.symm,hfy⟩
 case round=>
  obtain⟨x,st',Ax,cx,hm,hkf,rfl,aa,dg⟩:=hrel;clear hfy;obtain⟨kk,rfl⟩:∃k,gk=k+1:=⟨gk-1,by omega⟩;rw [K3] at aa
  by_cases h0:(Kd7 ts st' (Kdx k)).1.size=0
  ·rw [if_pos h0] at aa;have hz:(Kd7 ts st' (Kdx k)).1=⟨#[]⟩:=by ext1;apply Array.eq_empty_of_size_eq_zero;rw [ByteArray.size_data];exact h0
   rw [Kl0 ts st' _ (Kiu k) hz] at dg;rw [hz];obtain⟨c0,c1,c2,c3⟩:=dg.here;have f0:=dg.fz 0;have f1:=dg.fz 1;have f2:=dg.fz 2;have f3:=dg.fz 3;have r0:=dg.r0;have r1:=dg.r1;have r2:=dg.r2;have r3:=dg.r3;have fD:=dg.glt;have kI:=dg.zg;have HR:=Lib.hid aa;clear aa h0 hz
   go_wp2_with fail
   refine bodyPost_ret (v:=exV x Ax cx) (by simp [results,Tryz.results86,go_sem,exV, *]) rfl ?_;rw [<-HR.out];exact dg.fin _ _ _ _
  ·rw [if_neg h0] at aa;have hle':=dg.ps.le;have kz:=(Kg9 ts st' (Kdx k)).1;have hem:(Kd7 ts st' (Kdx k)).1.toList.isEmpty=false:=Jfp (by omega);have wu:st'.pos<(Kd7 ts st' (Kdx k)).2.pos:=Kmn ts st' _ (Kiu k) (fun h=>h0 (by rw [h];rfl));generalize Kd7 ts st' (Kdx k)=Y at *;obtain⟨s,st2⟩:=Y;dsimp only at *;have hlw:=fun W' (hp:X2 B ts A cap W' st2)=>(IH.out kk (by omega) st2 W' hp).2.1 (k+1) (by omega) (by omega);have oL:=(Ke3 ts kk (.level (k+1)) st2).1;generalize K3 ts kk (.level (k+1)) st2=D at hlw oL aa;rw [ek,<-HWR.out] at hlw;unfold Kdq Ke9 exV at hlw;obtain⟨y,st3⟩:=D;dsimp only at hlw oL aa;clear h0;have HR:=Lib.hid aa;clear aa;have q:=dg.here;have eS:=dg.glt;have kI:=dg.zg;have hBz:=dg.Bz;have al:w1.heap.size≠B:=by omega
   go_wp2_with fail
   refine Kd (fun V:World=>V.cell? ⟨w1.heap.size,0,none⟩=some (.int .i64 x.kind)/\V.cell? ⟨w1.heap.size,1,none⟩=some (.int .i32 x.n)/\V.cell? ⟨w1.heap.size,2,none⟩=some (.string x.name)/\V.cell? ⟨w1.heap.size,3,none⟩=some (.slice Ax x.sub.length cx)) 7 3 (by kernel_rfl) (by rfl) ?_;simp only [List.size_toArray,List.length_cons,List.length_nil,Nat.zero_add,Nat.reduceAdd];have ar:wr.drew.cell? ⟨w1.heap.size,0,none⟩=some (.int .i64 x.kind)/\wr.drew.cell? ⟨w1.heap.size,1,none⟩=some (.int .i32 x.n)/\wr.drew.cell? ⟨w1.heap.size,2,none⟩=some (.string x.name)/\wr.drew.cell? ⟨w1.heap.size,3,none⟩=some (.slice Ax x.sub.length cx):=q;refine Ji 0 ar ?_;refine Ji 2 ar ?_;refine Ji 3 ar ?_;refine Ji 4 ar ?_;refine Ji 5 ar ?_;refine Kb 1 ?_;refine Jj fun K hK=>?_;go_simp;refine(Kmv _ _).mono ?_;rintro r w5 ⟨rfl,rfl⟩;dsimp only;refine hK _ _ ⟨ar,?_⟩;clear hK K
   try simp only [Act.put,sa1,sa2,sa3]
   refine Kb 6 ?_;refine Jj fun K hK=>?_;go_simp;refine(hlw _ dg.drew.ps).mono ?_;rintro r w6 ⟨⟨_,rfl,Ay,cy,rfl,hoy⟩,tj,cu⟩;dsimp only;refine hK _ _ ⟨kc4 cu al dg.drew.glt dg.drew.here,?_⟩;clear hK K
   try simp only [Act.put,sa1,sa2,sa3]
   have hf6:=dg.drew.on cu tj;have hoy':Off (W.heap.size+1) (some w1.heap.size) w6 (fun V=>Jt V y Ay cy):=Kn0 hoy (by show W.heap.size+1<=wr.heap.size;omega) (by show w1.heap.size<wr.heap.size;omega);have c0:=hf6.here.1;have c1:=hf6.here.2.1;have c2:=hf6.here.2.2.1;have c3:=hf6.here.2.2.2;have f0:=hf6.fg 0;have f1:=hf6.fg 1;have f2:=hf6.fg 2;have f3:=hf6.fg 3;have hl6:=hf6.glt;clear q ar hoy cu tj;refine Kh (by kernel_rfl) ?_;refine Qx 7 ?_;refine Jj fun K hK=>?_;go_simp;refine hK _ _ ?_;clear hK K
   try simp only [Act.put,sa1,sa2,sa3]
   refine Qx 8 ?_;refine Jj fun K hK=>?_;go_simp;refine hK _ _ ?_;clear hK K
   try simp only [Act.put,sa1,sa2,sa3]
   refine Qx 9 ?_;refine Jj fun K hK=>?_;go_simp;refine hK _ _ ?_;clear hK K
   try simp only [Act.put,sa1,sa2,sa3]
   refine Ki (by kernel_rfl) ?_;have hf7:=hf6.last2 hoy' 5 (opF s) ⟨#[]⟩ 73;refine Zc fun V hV=>?_;have hfV:Ked B W.heap.size w1.heap.size ts A cap W V (.mk 5 (opF s) ⟨#[]⟩ [x,y]) st3 (some ⟨w6.heap.size,0,none⟩) 2:=by rw [hV];exact hf7
   clear hV hf7 hf6 hoy' c0 c1 c2 c3 f0 f1 f2 f3 dg
   cases dz:((k:Int) == 2)
   ·have hk2':¬k=2:=by simp at dz;omega
    have fa:=HR.out;rw [if_neg hk2'] at fa;have sN:=Lib.hid fa;clear HR hk2' fa
    go_wp2_with fail
    refine Kd (fun _:World=>True) 5 2 (by kernel_rfl) (by rfl) ?_;simp only [List.size_toArray,List.length_cons,List.length_nil,Nat.zero_add,Nat.reduceAdd];refine Ji 0 trivial ?_;refine Ji 1 trivial ?_;refine Ji 2 trivial ?_;refine Ji 3 trivial ?_;refine Kb 4 ?_;refine Jj fun K hK=>?_;go_simp;refine(Ki9 k hk _).mono ?_;rintro r w2 ⟨⟨Al,rfl,hol⟩,ij⟩;dsimp only;have wZ:=hfV.drew.on (J6.bel ij) (hfV.drew.ps.later ij);refine hK _ _ ⟨trivial,?_⟩;clear hK K
    try simp only [Act.put,sa1,sa2,sa3]
    have hBm:B<(V).drew.heap.size:=Nat.lt_trans (hfV.Bz) (Nat.lt_trans hfV.zg hfV.glt);refine Kh (by kernel_rfl) ?_;refine Qx 5 ?_;refine Jj fun K hK=>?_;go_simp;refine(Kj0 wZ.ps ai (Kdx k) Al _ (Kj3 hol hBm)).mono ?_;rintro r wy ⟨rfl,hpy,hky⟩;dsimp only;have hfy:=wZ.on hky hpy;refine hK _ _ ?_;clear hK K
    try simp only [Act.put,sa1,sa2,sa3]
    clear hol ij hky wZ hBm;refine Qx 6 ?_;refine Jj fun K hK=>?_;go_simp;refine hK _ _ ?_;clear hK K
    try simp only [Act.put,sa1,sa2,sa3]
    refine Ki (by kernel_rfl) ?_;clear hfV hpy
    go_wp2_with fail
    go_roundg kk
    case measure=>omega
    case rel=>exact⟨_,_,_,_,by omega,by omega,rfl,sN.out,hfy⟩
   ·have hk2':k=2:=by simp at dz;omega
    have fa:=HR.out;rw [if_pos hk2'] at fa;have sN:=Lib.hid fa;clear HR hk2' fa;obtain⟨c0,c1,c2,c3⟩:=hfV.here;have f0:=hfV.fz 0;have f1:=hfV.fz 1;have f2:=hfV.fz 2;have f3:=hfV.fz 3;have r0:=hfV.r0;have r1:=hfV.r1;have r2:=hfV.r2;have r3:=hfV.r3;have fD:=hfV.glt;simp only [Ex.kind,Ex.n,Ex.name,Ex.sub,List.length_cons,List.length_nil] at c0 c1 c2 c3
    go_wp2_with fail
    refine bodyPost_ret (v:=exV (.mk 5 (opF s) ⟨#[]⟩ [x,y]) (some ⟨w6.heap.size,0,none⟩) 2) (by simp [results,Tryz.results86,go_sem,exV,Ex.kind,Ex.n,Ex.name,Ex.sub, *]) rfl ?_;rw [<-sN.out];exact hfV.fin _ _ _ _
theorem Kl2 {B:Nat} {ts:List Tk} {A:Option Addr} {cap:Nat} (ai:ts.length<=100000):∀f,Kgx B ts A cap f:=by
 intro f
 induction f using Nat.strongRecOn with
 | ind f ih=>
 match f,ih with
 | 0,_=>exact fun st W h=>⟨fun h=>absurd h (by omega),fun k _ h=>absurd h (by omega),fun h=>absurd h (by omega),fun h=>absurd h (by omega),fun h=>absurd h (by omega)⟩
 | f+1,ih=>
  have ih0:=ih f (by omega);refine fun st W h=>⟨fun hf=>Kl8 ih0 h ai hf,fun k hk hf=>?_,fun hf=>Klo ih0 h ai hf,fun hf=>Kkt ih0 h ai hf,fun hf=>Kmj ih0 h ai hf⟩
  rcases Nat.lt_or_ge k 6 with cu|cu
  ·exact Klq ih h ai cu hf
  ·obtain rfl:k=6:=by omega
   exact Klk ih0 h (by omega)
theorem Kog {B:Nat} {ts:List Tk} {A:Option Addr} {cap:Nat} {st:St} {W:World} (h:X2 B ts A cap W st) (ai:ts.length<=100000) :
  Calls Tryz.prog 43 #[.pointer (some ⟨B,0,none⟩)] W (Kdq B ts A cap W (K3 ts (Kfc ts) .expr st)):=
 (Kl2 ai (Kfc ts) st W h).1 (by unfold Kfc;omega)
theorem Koe {B:Nat} {ts:List Tk} {A:Option Addr} {cap:Nat} {st:St} {W:World} (h:X2 B ts A cap W st) (ai:ts.length<=100000) :
  Calls Tryz.prog 84 #[.pointer (some ⟨B,0,none⟩)] W (Keu B ts A cap W (vaV (Kec ts st).1) (Kec ts st).2):=by
 have cm:=h.lt;have aS:W.heap.size≠B:=by omega
 have aL:=fun W' (h':X2 B ts A cap W' st)=>Kfd h' ai;unfold Kec;generalize Kdn ts st=N at aL ⊢;obtain⟨nm,st1⟩:=N;dsimp only at aL ⊢;have eR:=fun W' (h':X2 B ts A cap W' st1)=>Koc h' ⟨#[58]⟩ ai;generalize Kda ts st1 ⟨#[58]⟩=st2 at eR ⊢;have eu:=fun W' (h':X2 B ts A cap W' st2)=>Koc h' ⟨#[105,110,116]⟩ ai;generalize Kda ts st2 ⟨#[105,110,116]⟩=st3 at eu ⊢;have HP:=Lib.hid h;clear h;unfold vaV
 cases h1:Kc5 ts st2 ⟨#[98,111,111,108]⟩
 ·rw [if_neg (by simp)]
  go_enter Tryz.func84,Tryz.ntmps84
  go_wp2_with (first
   | (go_at_call 38;go_loud (refine(aL _ (HP.out.alloc _)).mono ?_;rintro r w1 ⟨rfl,ii,cD⟩;have af:=cD.size;(try simp at af);have er:w1.heap.size≠B:=(by omega)))
   | (go_at_call_of 37 (Value.string ⟨#[105,110,116]⟩);go_loud (refine(eu _ ip).mono ?_;rintro r w4 ⟨rfl,bT,iA⟩;have pG:=dz.trans' (dU.trans' iA);have hk:=cD.trans' (K2 pG);have aW:=K1 hk;have bS:=kfz hk;have hcg:=K1 pG;have hz:=pG.size;(try simp at hz);have dG:W.heap.size<w4.heap.size:=(by omega);have cA:w1.heap.size<w4.heap.size:=(by omega)))
   | (go_at_call_of 37 (Value.string ⟨#[58]⟩);go_loud (refine(eR _ (ii.alloc _)).mono ?_;rintro r w2 ⟨rfl,gL,dz⟩))
   | (go_at_call 18;go_loud (refine(Kdf gL h1 ai).mono ?_;rintro r w3 ⟨rfl,ip,dU⟩)))
  refine bodyPost_ret (v:= .agg #[.string nm,.int .i64 1,.int .i64 0,.string ⟨#[]⟩]) (by simp [results,Tryz.results84,go_sem, *]) rfl ?_;exact⟨rfl,Kd0 bT cm _ _ _ _,Kdp (K2 hk) (Nat.le_refl _) _ _ _ _⟩
 ·rw [if_pos rfl,Kdu h1]
  go_enter Tryz.func84,Tryz.ntmps84
  go_wp2_with (first
   | (go_at_call 38;go_loud (refine(aL _ (HP.out.alloc _)).mono ?_;rintro r w1 ⟨rfl,ii,cD⟩;have af:=cD.size;(try simp at af);have er:w1.heap.size≠B:=(by omega)))
   | (go_at_call_of 37 (Value.string ⟨#[58]⟩);go_loud (refine(eR _ (ii.alloc _)).mono ?_;rintro r w2 ⟨rfl,gL,dz⟩))
   | (go_at_call 18;go_loud (refine(Kdr gL h1 ai).mono ?_;rintro r w3 ⟨rfl,ip,dU⟩;have pG:=dz.trans' dU;have hk:=cD.trans' (K2 pG);have aW:=K1 hk;have bS:=kfz hk;have hcg:=K1 pG;have hfg:=kfz pG;have hz:=pG.size;(try simp at hz);have dG:W.heap.size<w3.heap.size:=(by omega);have cA:w1.heap.size<w3.heap.size:=(by omega))))
  refine bodyPost_ret (v:= .agg #[.string nm,.int .i64 2,.int .i64 0,.string ⟨#[]⟩]) (by simp [results,Tryz.results84,go_sem, *]) rfl ?_;exact⟨rfl,Kd0 (ip.beyond (by omega) _ _) cm _ _ _ _,Kdp ((K2 hk).fresh (by omega) _ _) (Nat.le_refl _) _ _ _ _⟩
structure Zv (W:World) (B:Nat) (ps:List Pl):Prop where
 cell:∀(k:Nat) (p:Pl),ps[k]?=some p->W.cell? ⟨B,k * 3,none⟩=some (.bool p.met)/\W.cell? ⟨B,k * 3+1,none⟩=some (.int .i64 p.d)/\W.cell? ⟨B,k * 3+2,none⟩=some (.int .i64 p.f)
 fz:∀o,W.frozen? ⟨B,o,none⟩=false
theorem Zv.set {W W2:World} {B tg:Nat} {ps:List Pl} {p:Pl} (h:Zv W B ps) (ho:∀o,(o<tg * 3\/tg * 3+3<=o)->W2.cell? ⟨B,o,none⟩=W.cell? ⟨B,o,none⟩)
  (h0:W2.cell? ⟨B,tg * 3,none⟩=some (.bool p.met)) (h1:W2.cell? ⟨B,tg * 3+1,none⟩=some (.int .i64 p.d)) (h2:W2.cell? ⟨B,tg * 3+2,none⟩=some (.int .i64 p.f)) (hf:∀o,W2.frozen? ⟨B,o,none⟩=W.frozen? ⟨B,o,none⟩):Zv W2 B (ps.set tg p):=by
 refine⟨fun k q hk=>?_,fun o=>(hf o).trans (h.fz o)⟩;rw [List.getElem?_set] at hk
 by_cases hj:tg=k
 ·subst hj;rw [if_pos rfl] at hk
  split at hk
  ·injection hk with hk;subst hk;exact⟨h0,h1,h2⟩
  ·cases hk
 ·rw [if_neg hj] at hk;obtain⟨a1,a2,a3⟩:=h.cell k q hk;exact⟨(ho _ (by omega)).trans a1,(ho _ (by omega)).trans a2,(ho _ (by omega)).trans a3⟩
theorem Zv.later {W W2:World} {B:Nat} {ps:List Pl} (h:Zv W B ps) (hB:B<W.heap.size) (hb:Below W.heap.size W W2):Zv W2 B ps:=
 ⟨fun k p hk=>by obtain⟨a1,a2,a3⟩:=h.cell k p hk;exact⟨Ja hb a1,Ja hb a2,Ja hb a3⟩,fun o=>(Jf hb B o hB).trans (h.fz o)⟩
theorem Zv.store1 {W:World} {B tg:Nat} {ps:List Pl} {q:Pl} (h:Zv W B ps) (hx:ps[tg]?=some q) (f:Int):Zv (W.setCell ⟨B,tg * 3+2,none⟩ (.int .i64 f)) B (ps.set tg ⟨q.met,q.d,f⟩):=by
 obtain⟨c0,c1,c2⟩:=h.cell tg q hx;have ne:∀o,o≠tg * 3+2->(W.setCell ⟨B,tg * 3+2,none⟩ (.int .i64 f)).cell? ⟨B,o,none⟩=W.cell? ⟨B,o,none⟩:=fun o ho=>World.cell?_setCell_other _ _ _ _ (by intro he;injection he with e1 e2;first|exact ho e2|exact ho e2.symm);exact h.set (fun o ho=>ne o (by omega)) ((ne _ (by omega)).trans c0) ((ne _ (by omega)).trans c1) (World.cell?_setCell_same _ _ _ c2) (fun o=>World.frozen?_setCell ..)
theorem Zv.store3 {W:World} {B tg:Nat} {ps:List Pl} {q:Pl} (h:Zv W B ps) (hx:ps[tg]?=some q) (m:Bool) (d f:Int):Zv (((W.setCell ⟨B,tg * 3,none⟩ (.bool m)).setCell ⟨B,tg * 3+1,none⟩ (.int .i64 d)).setCell ⟨B,tg * 3+2,none⟩ (.int .i64 f)) B (ps.set tg ⟨m,d,f⟩):=by
 obtain⟨c0,c1,c2⟩:=h.cell tg q hx;have ne:∀(W:World) (j:Nat) (u:Value) (o:Nat),o≠j->(W.setCell ⟨B,j,none⟩ u).cell? ⟨B,o,none⟩=W.cell? ⟨B,o,none⟩:=fun W j u o ho=>World.cell?_setCell_other _ _ _ _ (by intro he;injection he with e1 e2;first|exact ho e2|exact ho e2.symm);refine h.set (fun o ho=>?_) ?_ ?_ ?_ (fun o=>?_)
 ·rw [ne _ _ _ _ (by omega),ne _ _ _ _ (by omega),ne _ _ _ _ (by omega)]
 ·rw [ne _ _ _ _ (by omega),ne _ _ _ _ (by omega)];exact World.cell?_setCell_same _ _ _ c0
 ·rw [ne _ _ _ _ (by omega)];exact World.cell?_setCell_same _ _ _ ((ne _ _ _ _ (by omega)).trans c1)
 ·exact World.cell?_setCell_same _ _ _ (((ne _ _ _ _ (by omega)).trans (ne _ _ _ _ (by omega))).trans c2)
 ·rw [World.frozen?_setCell,World.frozen?_setCell,World.frozen?_setCell]
theorem Jrl (a:Bool) (b c:Int) (w:World):(Op.equalIn 10000 133 (.agg #[.bool a,.int .i64 b,.int .i64 c]) (.agg #[.bool false,.int .i64 0,.int .i64 0])).run Tryz.prog w = .ok (!a && b == 0 && c == 0) w:=by
 have hS:Tryz.prog.underlying 133=some (.struct (Tryz.prog.fieldsOf 133)):=by kernel_rfl
 have hp:Tryz.prog.stoodInHeld 133=false:=by kernel_rfl
 rw [show(10000:Nat)=9999+1 from rfl,run_equalIn_agg w 9999 133 _ _ hS hp];simp only [Program.fieldsOf,Tryz.underlying133];go_simp
 cases a <;> by_cases h2:b=0 <;> by_cases h3:c=0 <;> simp [h2,h3]
theorem Jws (X B:Nat) (ps:List Pl) (tg:Nat) (d f:Int) (W:World) (jt:X≠B) (hc:W.cell? ⟨X,0,none⟩=some (.slice (some ⟨B,0,none⟩) ps.length ps.length)) (hp:Zv W B ps) (hB:B<W.heap.size) (wR:tg<ps.length) (ai:ps.length<=601)
  (gG:∀p,ps[tg]?=some p->p.met=false->p.d=0/\p.f=0) :
  Calls Tryz.prog 97 #[.pointer (some ⟨X,0,none⟩),.int .i64 tg,.int .i64 d,.int .i64 f] W fun r w'=>r = .returned (.bool (Ja5 ps tg d f).isSome)/\Zv w' B ((Ja5 ps tg d f).getD ps)/\J6 (fun k=>k=B) W w':=by
 have hx:ps[tg]?=some ps[tg]:=List.getElem?_eq_getElem wR;generalize ps[tg]=p at hx;have hu:=gG p hx;obtain⟨c0,c1,c2⟩:=hp.cell tg p hx;have hfz0:=hp.fz (tg * 3);have tH:=hp.fz (tg * 3+1);have hfz2:=hp.fz (tg * 3+2);have pO:=block_lt_of_cell hc;have fM:Tryz.prog.eqGuardType Tryz.prog.depth 133=false:=by kernel_rfl
 have hti:(tg:Int)<(ps.length:Int):=by omega
 obtain⟨R,hR⟩:∃R,R=Ja5 ps tg d f:=⟨_,rfl⟩;rw [<-hR];unfold Ja5 at hR;rw [hx] at hR;dsimp only at hR;have HP:=Lib.hid hp;have HX:=Lib.hid hx;clear hp gG hx;obtain⟨pm,pd,pf⟩:=p;dsimp only at *
 cases pm
 ·obtain⟨rfl,rfl⟩:=hu rfl;rw [if_neg (by decide)] at hR;have HR:=Lib.hid hR;have dp:=fun w=>Jrl false 0 0 w;clear hR hu
  go_enter Tryz.func97,Tryz.ntmps97
  go_wp2_with fail
  go_ret;rw [HR.out];exact⟨rfl,(HP.out.store3 HX.out true d f).later (by simp;exact hB) (Jc (Below.refl _ _) _),((((J6.refl (S:=fun k=>k=B) W).setCell rfl _ _).setCell rfl _ _).setCell rfl _ _).trans' (J6.bel (Jc (Below.refl _ _) _))⟩
 ·rw [if_pos rfl] at hR;have dp:=fun w=>Jrl true pd pf w;simp only [Bool.not_true,Bool.false_and] at dp;clear hu
  by_cases hd:pd=d
  ·rw [if_pos hd] at hR;obtain rfl:=hd;have tq:(pd != pd)=false:=by simp
   by_cases hpf:pf<f
   ·have hm:max pf f=f:=by omega
    rw [hm] at hR;have HR:=Lib.hid hR;clear hR hm
    go_enter Tryz.func97,Tryz.ntmps97
    go_wp2_with fail
    go_region_law (fail)
    all_goals
     go_wp2_with fail
     go_ret;rw [HR.out];exact⟨rfl,(HP.out.store1 HX.out f).later (by simp;exact hB) (Jh (Jc (Below.refl _ _) _)),((J6.refl (S:=fun k=>k=B) W).setCell rfl _ _).trans' (J6.bel (Jh (Jc (Below.refl _ _) _)))⟩
   ·have hm:max pf f=pf:=by omega
    rw [hm] at hR;have HR:=Lib.hid hR;clear hR hm
    go_enter Tryz.func97,Tryz.ntmps97
    go_wp2_with fail
    go_region_law (fail)
    all_goals
     go_wp2_with fail
     go_ret;rw [HR.out];exact⟨rfl,(HP.out.store1 HX.out pf).later (by simp;exact hB) (Jh (Jc (Below.refl _ _) _)),((J6.refl (S:=fun k=>k=B) W).setCell rfl _ _).trans' (J6.bel (Jh (Jc (Below.refl _ _) _)))⟩
  ·rw [if_neg hd] at hR;have tq:(pd != d)=true:=by simpa using hd
   have HR:=Lib.hid hR;clear hR
   go_enter Tryz.func97,Tryz.ntmps97
   go_wp2_with fail
   go_ret;rw [HR.out];exact⟨rfl,HP.out.later hB Jb,J6.bel Jb⟩
theorem Kj1 {B:Nat} {ts:List Tk} {A:Option Addr} {cap:Nat} {st:St} {W:World} (h:X2 B ts A cap W st) (ai:ts.length<=100000) :
  Calls Tryz.prog 40 #[.pointer (some ⟨B,0,none⟩)] W (Keu B ts A cap W (vaV (Kez ts st).1) (Kez ts st).2):=by
 have cm:=h.lt;have aS:W.heap.size≠B:=by omega
 have hd:=fun W' (h':X2 B ts A cap W' st)=>Koe h' ai;unfold Kez;generalize Kec ts st=D at hd ⊢;obtain⟨⟨dn,dt,dk,dc⟩,st1⟩:=D;unfold vaV at hd ⊢;dsimp only at hd ⊢;have HP:=Lib.hid h;clear h
 cases h1:Kc5 ts st1 ⟨#[119,104,101,110]⟩
 ·rw [if_neg (by simp)]
  cases h2:Kc5 ts st1 ⟨#[117,110,108,101,115,115]⟩
  ·rw [if_neg (by simp)];have nq:=fun W' (h':X2 B ts A cap W' st1)=>Koc h' ⟨#[59]⟩ ai;generalize Kda ts st1 ⟨#[59]⟩=st3 at nq ⊢
   go_enter Tryz.func40,Tryz.ntmps40
   go_wp2_with (first
    | (go_at_call 84;go_loud (refine(hd _ (HP.out.alloc _)).mono ?_;rintro r w1 ⟨rfl,ii,cD⟩;have af:=cD.size;(try simp at af);have er:w1.heap.size≠B:=(by omega)))
    | (go_at_call_of 18 (Value.string ⟨#[119,104,101,110]⟩);go_loud (refine(Kdf (ii.alloc _) h1 ai).mono ?_;rintro r w2 ⟨rfl,gL,dz⟩))
    | (go_at_call_of 18 (Value.string ⟨#[117,110,108,101,115,115]⟩);go_loud (refine(Kdf gL h2 ai).mono ?_;rintro r w3 ⟨rfl,ip,dU⟩))
    | (go_at_call 37;go_loud (refine(nq _ ip).mono ?_;rintro r w5 ⟨rfl,dv,bb⟩;have pG:=dz.trans' (dU.trans' bb);have hk:=cD.trans' (K2 pG);have aW:=K1 hk;have bS:=kfz hk;have hcg:=K1 pG;have hz:=pG.size;(try simp at hz);have dG:W.heap.size<w5.heap.size:=(by omega);have cA:w1.heap.size<w5.heap.size:=(by omega))))
   refine bodyPost_ret (v:= .agg #[.string dn,.int .i64 dt,.int .i64 dk,.string dc]) (by simp [results,Tryz.results40,go_sem, *]) rfl ?_;exact⟨rfl,Kd0 dv cm _ _ _ _,Kdp (K2 hk) (Nat.le_refl _) _ _ _ _⟩
  ·rw [if_pos rfl,Kdu h2];have aL:=fun W' (h':X2 B ts A cap W' ⟨st1.pos+1,st1.bad⟩)=>Kfd h' ai;generalize Kdn ts ⟨st1.pos+1,st1.bad⟩=N at aL ⊢;obtain⟨nm,st2⟩:=N;dsimp only at aL ⊢;have nq:=fun W' (h':X2 B ts A cap W' st2)=>Koc h' ⟨#[59]⟩ ai;generalize Kda ts st2 ⟨#[59]⟩=st3 at nq ⊢
   go_enter Tryz.func40,Tryz.ntmps40
   go_wp2_with (first
    | (go_at_call 84;go_loud (refine(hd _ (HP.out.alloc _)).mono ?_;rintro r w1 ⟨rfl,ii,cD⟩;have af:=cD.size;(try simp at af);have er:w1.heap.size≠B:=(by omega)))
    | (go_at_call_of 18 (Value.string ⟨#[119,104,101,110]⟩);go_loud (refine(Kdf (ii.alloc _) h1 ai).mono ?_;rintro r w2 ⟨rfl,gL,dz⟩))
    | (go_at_call_of 18 (Value.string ⟨#[117,110,108,101,115,115]⟩);go_loud (refine(Kdr gL h2 ai).mono ?_;rintro r w3 ⟨rfl,ip,dU⟩))
    | (go_at_call 38;go_loud (refine(aL _ ip).mono ?_;rintro r w4 ⟨rfl,bT,iA⟩;have pG:=(dz.trans' dU).trans' iA;have hcg:=K1 pG;have hfg:=kfz pG;have qS:=pG.size;(try simp at qS);have cA:w1.heap.size<w4.heap.size:=(by omega)))
    | (go_at_call 37;go_loud (refine(nq _ ((bT.beyond (by omega) _ _).beyond (by omega) _ _)).mono ?_;rintro r w5 ⟨rfl,dv,bb⟩;have hk:=(((cD.trans' (K2 pG)).fresh (c:=w1.heap.size) (by simp;omega) _ _).fresh (c:=w1.heap.size) (by simp;omega) _ _).trans' bb;have aW:=K1 hk;have bS:=kfz hk;have vL:=K1 bb;have yx:=bb.size;(try simp at yx);have dG:W.heap.size<w5.heap.size:=(by omega);have kh:w1.heap.size<w5.heap.size:=(by omega))))
   refine bodyPost_ret (v:= .agg #[.string dn,.int .i64 dt,.int .i64 2,.string nm]) (by simp [results,Tryz.results40,go_sem, *]) rfl ?_;exact⟨rfl,Kd0 dv cm _ _ _ _,Kdp (K2 hk) (Nat.le_refl _) _ _ _ _⟩
 ·rw [if_pos rfl,Kdu h1];have aL:=fun W' (h':X2 B ts A cap W' ⟨st1.pos+1,st1.bad⟩)=>Kfd h' ai;generalize Kdn ts ⟨st1.pos+1,st1.bad⟩=N at aL ⊢;obtain⟨nm,st2⟩:=N;dsimp only at aL ⊢;have nq:=fun W' (h':X2 B ts A cap W' st2)=>Koc h' ⟨#[59]⟩ ai;generalize Kda ts st2 ⟨#[59]⟩=st3 at nq ⊢
  go_enter Tryz.func40,Tryz.ntmps40
  go_wp2_with (first
   | (go_at_call 84;go_loud (refine(hd _ (HP.out.alloc _)).mono ?_;rintro r w1 ⟨rfl,ii,cD⟩;have af:=cD.size;(try simp at af);have er:w1.heap.size≠B:=(by omega)))
   | (go_at_call_of 18 (Value.string ⟨#[119,104,101,110]⟩);go_loud (refine(Kdr (ii.alloc _) h1 ai).mono ?_;rintro r w2 ⟨rfl,gL,dz⟩))
   | (go_at_call 38;go_loud (refine(aL _ gL).mono ?_;rintro r w4 ⟨rfl,bT,iA⟩;have pG:=dz.trans' iA;have hcg:=K1 pG;have hfg:=kfz pG;have qS:=pG.size;(try simp at qS);have cA:w1.heap.size<w4.heap.size:=(by omega)))
   | (go_at_call 37;go_loud (refine(nq _ ((bT.beyond (by omega) _ _).beyond (by omega) _ _)).mono ?_;rintro r w5 ⟨rfl,dv,bb⟩;have hk:=(((cD.trans' (K2 pG)).fresh (c:=w1.heap.size) (by simp;omega) _ _).fresh (c:=w1.heap.size) (by simp;omega) _ _).trans' bb;have aW:=K1 hk;have bS:=kfz hk;have vL:=K1 bb;have yx:=bb.size;(try simp at yx);have dG:W.heap.size<w5.heap.size:=(by omega);have kh:w1.heap.size<w5.heap.size:=(by omega))))
  refine bodyPost_ret (v:= .agg #[.string dn,.int .i64 dt,.int .i64 1,.string nm]) (by simp [results,Tryz.results40,go_sem, *]) rfl ?_;exact⟨rfl,Kd0 dv cm _ _ _ _,Kdp (K2 hk) (Nat.le_refl _) _ _ _ _⟩
theorem X2.past {B:Nat} {ts:List Tk} {A:Option Addr} {cap:Nat} {W W':World} {st:St} (h:X2 B ts A cap W st) (hs:∀k,k<=B->W'.heap[k]?=W.heap[k]?):X2 B ts A cap W' st:=by
 refine⟨Jr (hs _ (Nat.le_refl _)) h.c0,Jr (hs _ (Nat.le_refl _)) h.c1,Jr (hs _ (Nat.le_refl _)) h.c2,(World.frozen?_of_block (hs _ (Nat.le_refl _))).trans h.f1,(World.frozen?_of_block (hs _ (Nat.le_refl _))).trans h.f2,(World.frozen?_of_block (hs _ (Nat.le_refl _))).trans h.f0,⟨h.toks.1,h.toks.2.1,fun hl=>?_⟩,h.le⟩;obtain⟨b,off,hA,hB,hr⟩:=h.toks.2.2 hl;exact⟨b,off,hA,hB,fun k t ht=>⟨Jr (hs _ (Nat.le_of_lt hB)) (hr k t ht).c0,Jr (hs _ (Nat.le_of_lt hB)) (hr k t ht).c1,Jr (hs _ (Nat.le_of_lt hB)) (hr k t ht).c2,Jr (hs _ (Nat.le_of_lt hB)) (hr k t ht).c3⟩⟩
theorem X2.app {B base n size:Nat} {ts:List Tk} {A:Option Addr} {cap:Nat} {W W':World} {st:St} {e:TypeId} {v:Value} {xs:List Value} (h:X2 B ts A cap W st) (ho:W.ownsRow base e size v n xs) (hB:B<base) (hg:W.grownBy W' v.ownBlock):X2 B ts A cap W' st:=
 h.past fun k hk=>hg.block k (Nat.lt_of_le_of_lt hk h.lt) fun he=>by have:=(ho.lt k he.symm).1;omega
theorem J6.app {B base n size:Nat} {W0 W W':World} {e:TypeId} {v:Value} {xs:List Value} (h:J6 (fun b=>b=B) W0 W) (ho:W.ownsRow base e size v n xs) (hb:W0.heap.size<=base) (hg:W.grownBy W' v.ownBlock):J6 (fun b=>b=B) W0 W':=
 h.trans (J6.grown (S:=fun k=>v.ownBlock=some k) hg fun k hk=>hk) fun k hk hs=>by have:=(ho.lt k hs).1;omega
theorem Khg {B base n size:Nat} {W W':World} {e:TypeId} {v:Value} {xs:List Value} (ho:W.ownsRow base e size v n xs) (hB:B<base) (hk:J6 (fun b=>b=B) W W'):W'.ownsRow base e size v n xs:=
 hk.own (fun b hb=>by have:=(ho.lt b hb).1;show ¬b=B;omega) ho
theorem Kia {w:World} {base:Nat} {e:TypeId} {l:List Va} {A:Option Addr} {cap:Nat} (h:w.ownsRow base e 4 (.slice A l.length cap) l.length (Xe l)):Off base none w (fun V=>Ju V l A cap):=by
 rcases Nat.eq_zero_or_pos l.length with h0|h0
 ·obtain⟨A',c',hv,h1,h2⟩:=Jv h;injection hv with e1 e2 e3;subst e3;exact fun V _=>⟨h1,h2,fun hl=>absurd hl (by omega)⟩
 ·obtain⟨g,c',hv,hg,am,h1,h2,hc⟩:=Kc h h0;injection hv with e1 e2 e3;subst e1 e3;refine fun V hV=>⟨h1,h2,fun _=>⟨g,0,rfl,fun k v hk=>?_⟩⟩;have ha:=fun i u hu=>Jr (hV g hg am (by simp)) (hc _ _ (Jrh l k v hk i u hu));rw [Nat.zero_add];exact⟨ha 0 _ rfl,ha 1 _ rfl,ha 2 _ rfl,ha 3 _ rfl⟩
def Khn (B:Nat) (ts:List Tk) (A:Option Addr) (cap:Nat) (W:World) (x:List Va×St) (r:Ending) (W':World):Prop:=
 (∃Al cl,r = .returned (.slice Al x.1.length cl)/\Off W.heap.size none W' (fun V=>Ju V x.1 Al cl))/\X2 B ts A cap W' x.2/\J6 (fun b=>b=B) W W'
theorem Klu (ts:List Tk) (st:St):Keo ts st (Kec ts st).2:=by
 unfold Kec;dsimp only
 split
 ·exact((Kdz _ _).trans (Kdc _ _ _)).trans (Kdl _ _ _)
 ·exact((Kdz _ _).trans (Kdc _ _ _)).trans (Kdc _ _ _)
theorem Jm4 {B:Nat} {ts:List Tk} {A:Option Addr} {cap:Nat} {st:St} {W:World} (h:X2 B ts A cap W st) (ai:ts.length<=100000) :
  Calls Tryz.prog 39 #[.pointer (some ⟨B,0,none⟩)] W (Khn B ts A cap W (Ker ts st)):=by
 have cm:=h.lt;unfold Ker;have eR:=Koc h ⟨#[40]⟩ ai;generalize Kda ts st ⟨#[40]⟩=st1 at eR ⊢
 cases h1:Kc5 ts st1 ⟨#[41]⟩
 ·dsimp only;rw [if_neg (by rw [h1];simp)];have hd:=fun W' (h':X2 B ts A cap W' st1)=>Koe h' ai;generalize Kec ts st1=D at hd ⊢;obtain⟨d,st2⟩:=D;obtain⟨R,hR⟩:∃R,R=Ke4 ts (ts.length+1) [d] st2:=⟨_,rfl⟩;dsimp only at hd ⊢;rw [<-hR];have vi:=Lib.hid hR;clear hR h;unfold vaV at hd
  go_enter Tryz.func39,Tryz.ntmps39
  go_wp2_with (first
   | (go_at_call 37;go_loud (refine eR.mono ?_;rintro r w1 ⟨rfl,ii,cD⟩))
   | (go_at_call 18;go_loud (refine(Kdf ii h1 ai).mono ?_;rintro r w2 ⟨rfl,gL,dz⟩))
   | (go_at_call 84;go_loud (refine(hd _ gL).mono ?_;rintro r w3 ⟨rfl,ip,dU⟩)))
  have iP:=cD.trans' (dz.trans' dU)
  have eo:(w3.alloc (.cells #[.string d.name,.int .i64 d.type,.int .i64 d.ck,.string d.cn] 83)).ownsRow W.heap.size 83 4 (.slice (some ⟨w3.heap.size,0,none⟩) 1 1) 1 (Xe [d]):=by
   have:=World.ownsRow_lit (base:=W.heap.size) (e:=83) (size:=4) w3 #[.string d.name,.int .i64 d.type,.int .i64 d.ck,.string d.cn] 1 iP.size (by unfold maxLen;omega) rfl;simpa [Xe,vaC] using this
  go_loopg [3] (ts.length+1) (fun k sv wr=>∃l st' Al cl,sv = .slice Al l.length cl/\ts.length-st'.pos<k/\l.length+(ts.length-st'.pos)<=ts.length+1/\wr.ownsRow W.heap.size 83 4 (.slice Al l.length cl) l.length (Xe l)/\Ke4 ts k l st'=R/\X2 B ts A cap wr st'/\J6 (fun b=>b=B) W wr)
  case atStart=>exact⟨[d],st2,_,_,rfl,by omega,by simp;omega,eo,vi.out.symm,ip.alloc _,iP.alloc _⟩
  case round=>
   obtain⟨l,st',Al,cl,rfl,hm,cY,ae,aa,wu,sT⟩:=hrel;obtain⟨k,rfl⟩:∃k,gk=k+1:=⟨gk-1,by omega⟩;rw [Ke4] at aa
   cases h2:Kc5 ts st' ⟨#[59]⟩
   ·rw [h2,if_neg (by simp)] at aa;have HR:=Lib.hid aa;clear aa;have aS:=fun W' (h':X2 B ts A cap W' st')=>Koc h' ⟨#[41]⟩ ai
    go_wp2_with (first
     | (go_at_call 18;go_loud (refine(Kdf wu h2 ai).mono ?_;rintro r w4 ⟨rfl,bT,iA⟩))
     | (go_at_call 37;go_loud (refine(aS _ bT).mono ?_;rintro r w5 ⟨rfl,dv,bb⟩)))
    go_ret;rw [<-HR.out];exact⟨⟨Al,cl,rfl,Kia (Khg (Khg ae cm iA) cm bb)⟩,dv,sT.trans' (iA.trans' bb)⟩
   ·rw [h2,if_pos rfl,Kdu h2] at aa;have am:=Ket h2;have gN:=fun W' (h':X2 B ts A cap W' ⟨st'.pos+1,st'.bad⟩)=>Koe h' ai;have aG:=Klu ts ⟨st'.pos+1,st'.bad⟩;generalize Kec ts ⟨st'.pos+1,st'.bad⟩=D2 at gN aa aG;obtain⟨d2,st3⟩:=D2;have bJ:st'.pos+1<=st3.pos:=aG.1;dsimp only at gN aa;unfold vaV at gN;have HR:=Lib.hid aa;clear aa aG
    go_wp2_with (first
     | (go_at_call 18;go_loud (refine(Kdr wu h2 ai).mono ?_;rintro r w4 ⟨rfl,bT,iA⟩))
     | (go_at_call 84;go_loud (refine(gN _ bT).mono ?_;rintro r w5 ⟨rfl,dv,bb⟩;have bX:=Khg (Khg ae cm iA) cm bb;have yx:=iA.trans' bb;have hz6:=(sT.trans' yx).size))
     | (at_builtin;go_loud (refine Z2 rfl (.tmp 19) (.tmp 22) 35 rfl W.heap.size 83 _ 4 48 Tryz.underlying35 Jc8 rfl (by omega) (.slice Al l.length cl) l.length (Xe l) w5.heap.size 1 1 (vaC d2) rfl (Js bX) rfl rfl (fun j u hj=>by rw [Kw];simpa [vaC] using hj) (by simp [vaC,Value.oneCell']) (by omega) (by omega) (by simp;omega) ?_;intro v6 w6 fi ue yt)))
    obtain⟨A6,c6,rfl,-,-⟩:=Jv fi
    go_roundg k
    case measure=>omega
    case rel=>exact⟨l ++ [d2],st3,A6,c6,by simp,by omega,by simp;omega,by simpa [Xe] using fi,HR.out,(dv.alloc _).app (Js bX) cm ue,((sT.trans' yx).alloc _).app (Js bX) (Nat.le_refl _) ue⟩
 ·dsimp only;rw [if_pos h1,Kdu h1];clear h
  go_enter Tryz.func39,Tryz.ntmps39
  go_wp2_with (first
   | (go_at_call 37;go_loud (refine eR.mono ?_;rintro r w1 ⟨rfl,ii,cD⟩))
   | (go_at_call 18;go_loud (refine(Kdr ii h1 ai).mono ?_;rintro r w2 ⟨rfl,gL,dz⟩)))
  go_ret;exact⟨⟨none,0,rfl,Kex _ _ fun V=>⟨Nat.le_refl _,by unfold maxLen;omega,fun h=>absurd h (by simp)⟩⟩,gL,cD.trans' dz⟩
end Go.Proofs.YtdgjplldlfeolaaGreatDoor
