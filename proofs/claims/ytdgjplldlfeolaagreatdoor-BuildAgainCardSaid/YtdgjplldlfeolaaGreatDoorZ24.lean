/- Lemmas. -/
import Derived.Test.YtdgjplldlfeolaaGreatDoorZ20
set_option linter.unusedVariables false
set_option linter.unusedSimpArgs false
set_option maxRecDepth 100000
set_option maxHeartbeats 64000000
namespace Go.Proofs.YtdgjplldlfeolaaGreatDoor
open Go.RowKit Go.Sort
theorem Kdf {B:Nat} {ts:List Tk} {A:Option Addr} {cap:Nat} {st:St} {W:World} {s:ByteArray} (h:X2 B ts A cap W st) (hs:Kc5 ts st s=false) (ai:ts.length<=100000):Calls Tryz.prog 18 #[.pointer (some ⟨B,0,none⟩),.string s] W (Keu B ts A cap W (.bool false) st):=by
 have:=Kfh h s ai;unfold Kc6 at this
 rwa [hs,if_neg (by simp)] at this
theorem Kdr {B:Nat} {ts:List Tk} {A:Option Addr} {cap:Nat} {st:St} {W:World} {s:ByteArray} (h:X2 B ts A cap W st) (hs:Kc5 ts st s=true) (ai:ts.length<=100000):Calls Tryz.prog 18 #[.pointer (some ⟨B,0,none⟩),.string s] W (Keu B ts A cap W (.bool true) ⟨st.pos+1,st.bad⟩):=by
 have:=Kfh h s ai;unfold Kc6 at this
 rwa [hs,if_pos rfl] at this
theorem Kdu {ts:List Tk} {st:St} {s:ByteArray} (hs:Kc5 ts st s=true):Kc6 ts st s=⟨st.pos+1,st.bad⟩:=by unfold Kc6;rw [hs,if_pos rfl]
theorem Km1 {B:Nat} {ts:List Tk} {A:Option Addr} {cap:Nat} {st:St} {W:World} (h:X2 B ts A cap W st) (ai:ts.length<=100000) (h0:((Kc7 ts st).getD tkZ).kind=2) :
  Calls Tryz.prog 137 #[.pointer (some ⟨B,0,none⟩)] W (Kdq B ts A cap W (.mk 1 (Kdy ts st 2).1.n ⟨#[]⟩ [],(Kdy ts st 2).2)):=by
 have cm:=h.lt;have aS:W.heap.size≠B:=by omega
 have qU:=fun W' hb=>Kej (W:=W') (h.later hb);have aP:=fun W' (h':X2 B ts A cap W' st)=>Kjj h' 2 ai;generalize (Kc7 ts st).getD tkZ=t at qU h0;generalize (Kc7 ts st).isSome=o at qU;obtain⟨tk,tx,tn,tp⟩:=t;dsimp only at h0;subst h0;generalize Kdy ts st 2=R at aP ⊢;obtain⟨⟨rk,rx,rn,rp⟩,st2⟩:=R;unfold tkV at qU aP;dsimp only at qU aP ⊢;have jS:=Kn8 rk rx rn rp;have HP:=Lib.hid h;clear h;generalize sq:(2:Int)=tk at qU;have t2:(tk == 2)=true:=by rw [<-sq];rfl
 clear sq
 go_enter Tryz.func137,Tryz.ntmps137
 go_wp2_with (first
  | (go_at_call 85;go_loud (refine(qU _ Jb).mono ?_;rintro r w1 ⟨rfl,ac⟩;have ii:=(HP.out.later (show Below W.heap.size W w1 from Jb)).alloc (.cells #[.int .i64 tk,.string tx,.int .i32 tn,.int .i64 tp] 103);have wd:=(J6.bel (S:=fun b=>b=B) ac).alloc (.cells #[.int .i64 tk,.string tx,.int .i32 tn,.int .i64 tp] 103)))
  | (go_at_call 83;go_loud (refine(aP _ ii).mono ?_;rintro r w2 ⟨rfl,gL,hk⟩;have zH:=wd.trans' hk;clear hk;have aW:=K1 zH;have bS:=kfz zH;have hz:=zH.size;(try simp at hz);have dG:W.heap.size<w2.heap.size:=(by omega))))
 refine bodyPost_ret (v:=exV (.mk 1 rn ⟨#[]⟩ []) none 0) (by simp [results,Tryz.results137,go_sem,exV,Ex.kind,Ex.n,Ex.name,Ex.sub, *]) rfl ?_;exact⟨⟨_,rfl,none,0,rfl,Kex _ _ fun V=>Ke2 V (by unfold maxLen;omega)⟩,Kd0 gL cm _ _ _ _,Kdp (K2 zH) (Nat.le_refl _) _ _ _ _⟩
theorem Kmh {B:Nat} {ts:List Tk} {A:Option Addr} {cap:Nat} {st:St} {W:World} (h:X2 B ts A cap W st) (ai:ts.length<=100000) (h0:((Kc7 ts st).getD tkZ).kind≠2) (h1:Kc5 ts st ⟨#[116,114,117,101]⟩=true) :
  Calls Tryz.prog 137 #[.pointer (some ⟨B,0,none⟩)] W (Kdq B ts A cap W (.mk 2 1 ⟨#[]⟩ [],Kc6 ts st ⟨#[116,114,117,101]⟩)):=by
 have cm:=h.lt;have nn:=h.le;have aS:W.heap.size≠B:=by omega
 have qU:=fun W' hb=>Kej (W:=W') (h.later hb);generalize (Kc7 ts st).getD tkZ=t at qU h0;generalize (Kc7 ts st).isSome=o at qU;obtain⟨tk,tx,tn,tp⟩:=t;unfold tkV at qU;dsimp only at qU h0;have t2:(tk == 2)=false:=by simpa using h0
 have HP:=Lib.hid h;clear h h0;rw [Kdu h1]
 go_enter Tryz.func137,Tryz.ntmps137
 go_wp2_with (first
  | (go_at_call 85;go_loud (refine(qU _ Jb).mono ?_;rintro r w1 ⟨rfl,ac⟩;have ii:=(HP.out.later (show Below W.heap.size W w1 from Jb)).alloc (.cells #[.int .i64 tk,.string tx,.int .i32 tn,.int .i64 tp] 103);have wd:=(J6.bel (S:=fun b=>b=B) ac).alloc (.cells #[.int .i64 tk,.string tx,.int .i32 tn,.int .i64 tp] 103)))
  | (go_at_call_of 18 (Value.string ⟨#[116,114,117,101]⟩);go_loud (refine(Kdr ii h1 ai).mono ?_;rintro r w2 ⟨rfl,gL,hk⟩;have zH:=wd.trans' hk;clear hk;have aW:=K1 zH;have bS:=kfz zH;have hz:=zH.size;(try simp at hz);have dG:W.heap.size<w2.heap.size:=(by omega))))
 refine bodyPost_ret (v:=exV (.mk 2 1 ⟨#[]⟩ []) none 0) (by simp [results,Tryz.results137,go_sem,exV,Ex.kind,Ex.n,Ex.name,Ex.sub, *]) rfl ?_;exact⟨⟨_,rfl,none,0,rfl,Kex _ _ fun V=>Ke2 V (by unfold maxLen;omega)⟩,Kd0 gL cm _ _ _ _,Kdp (K2 zH) (Nat.le_refl _) _ _ _ _⟩
theorem Klg {B:Nat} {ts:List Tk} {A:Option Addr} {cap:Nat} {st:St} {W:World} (h:X2 B ts A cap W st) (ai:ts.length<=100000) (h0:((Kc7 ts st).getD tkZ).kind≠2) (h1:Kc5 ts st ⟨#[116,114,117,101]⟩=false) (h2:Kc5 ts st ⟨#[102,97,108,115,101]⟩=true) :
  Calls Tryz.prog 137 #[.pointer (some ⟨B,0,none⟩)] W (Kdq B ts A cap W (.mk 2 0 ⟨#[]⟩ [],Kc6 ts st ⟨#[102,97,108,115,101]⟩)):=by
 have cm:=h.lt;have nn:=h.le;have aS:W.heap.size≠B:=by omega
 have qU:=fun W' hb=>Kej (W:=W') (h.later hb);generalize (Kc7 ts st).getD tkZ=t at qU h0;generalize (Kc7 ts st).isSome=o at qU;obtain⟨tk,tx,tn,tp⟩:=t;unfold tkV at qU;dsimp only at qU h0;have t2:(tk == 2)=false:=by simpa using h0
 have HP:=Lib.hid h;clear h h0;rw [Kdu h2]
 go_enter Tryz.func137,Tryz.ntmps137
 go_wp2_with (first
  | (go_at_call 85;go_loud (refine(qU _ Jb).mono ?_;rintro r w1 ⟨rfl,ac⟩;have ii:=(HP.out.later (show Below W.heap.size W w1 from Jb)).alloc (.cells #[.int .i64 tk,.string tx,.int .i32 tn,.int .i64 tp] 103);have wd:=(J6.bel (S:=fun b=>b=B) ac).alloc (.cells #[.int .i64 tk,.string tx,.int .i32 tn,.int .i64 tp] 103)))
  | (go_at_call_of 18 (Value.string ⟨#[116,114,117,101]⟩);go_loud (refine(Kdf ii h1 ai).mono ?_;rintro r w2 ⟨rfl,gL,hk⟩;have zH:=wd.trans' hk;clear hk))
  | (go_at_call_of 18 (Value.string ⟨#[102,97,108,115,101]⟩);go_loud (refine(Kdr gL h2 ai).mono ?_;rintro r w3 ⟨rfl,ip,hk⟩;have hK3:=zH.trans' hk;clear hk;have aW:=K1 hK3;have bS:=kfz hK3;have hz:=hK3.size;(try simp at hz);have dG:W.heap.size<w3.heap.size:=(by omega))))
 refine bodyPost_ret (v:=exV (.mk 2 0 ⟨#[]⟩ []) none 0) (by simp [results,Tryz.results137,go_sem,exV,Ex.kind,Ex.n,Ex.name,Ex.sub, *]) rfl ?_;exact⟨⟨_,rfl,none,0,rfl,Kex _ _ fun V=>Ke2 V (by unfold maxLen;omega)⟩,Kd0 ip cm _ _ _ _,Kdp (K2 hK3) (Nat.le_refl _) _ _ _ _⟩
theorem Kms {B:Nat} {ts:List Tk} {A:Option Addr} {cap:Nat} {st:St} {W:World} (h:X2 B ts A cap W st) (ai:ts.length<=100000) (h0:((Kc7 ts st).getD tkZ).kind≠2) (h1:Kc5 ts st ⟨#[116,114,117,101]⟩=false) (h2:Kc5 ts st ⟨#[102,97,108,115,101]⟩=false)
  (h3:Kc5 ts st ⟨#[40]⟩=false) (h4:Kc5 ts st ⟨#[105,102]⟩=false) (h5:Kc5 ts st ⟨#[109,101,114,103,101]⟩=false) :
  Calls Tryz.prog 137 #[.pointer (some ⟨B,0,none⟩)] W (Kdq B ts A cap W (.mk 3 0 (Kdn ts st).1 [],(Kdn ts st).2)):=by
 have aL:=fun W' (h':X2 B ts A cap W' st)=>Kfd h' ai;generalize Kdn ts st=R at aL ⊢;have cm:=h.lt;have nn:=h.le;have aS:W.heap.size≠B:=by omega
 have qU:=fun W' hb=>Kej (W:=W') (h.later hb);generalize (Kc7 ts st).getD tkZ=t at qU h0;generalize (Kc7 ts st).isSome=o at qU;obtain⟨tk,tx,tn,tp⟩:=t;unfold tkV at qU;dsimp only at qU h0;have t2:(tk == 2)=false:=by simpa using h0
 have HP:=Lib.hid h;clear h h0
 go_enter Tryz.func137,Tryz.ntmps137
 go_wp2_with (first
  | (go_at_call 85;go_loud (refine(qU _ Jb).mono ?_;rintro r w1 ⟨rfl,ac⟩;have ii:=(HP.out.later (show Below W.heap.size W w1 from Jb)).alloc (.cells #[.int .i64 tk,.string tx,.int .i32 tn,.int .i64 tp] 103);have wd:=(J6.bel (S:=fun b=>b=B) ac).alloc (.cells #[.int .i64 tk,.string tx,.int .i32 tn,.int .i64 tp] 103)))
  | (go_at_call_of 18 (Value.string ⟨#[116,114,117,101]⟩);go_loud (refine(Kdf ii h1 ai).mono ?_;rintro r w2 ⟨rfl,gL,hk⟩;have zH:=wd.trans' hk;clear hk))
  | (go_at_call_of 18 (Value.string ⟨#[102,97,108,115,101]⟩);go_loud (refine(Kdf gL h2 ai).mono ?_;rintro r w3 ⟨rfl,ip,hk⟩;have hK3:=zH.trans' hk;clear hk))
  | (go_at_call_of 18 (Value.string ⟨#[40]⟩);go_loud (refine(Kdf ip h3 ai).mono ?_;rintro r w4 ⟨rfl,bT,hk⟩;have hK4:=hK3.trans' hk;clear hk))
  | (go_at_call_of 18 (Value.string ⟨#[105,102]⟩);go_loud (refine(Kdf bT h4 ai).mono ?_;rintro r w5 ⟨rfl,dv,hk⟩;have hK5:=hK4.trans' hk;clear hk))
  | (go_at_call_of 18 (Value.string ⟨#[109,101,114,103,101]⟩);go_loud (refine(Kdf dv h5 ai).mono ?_;rintro r w6 ⟨rfl,tj,hk⟩;have hK6:=hK5.trans' hk;clear hk))
  | (go_at_call 38;go_loud (refine(aL _ tj).mono ?_;rintro r w7 ⟨rfl,hp7,hk⟩;have hK7:=hK6.trans' hk;clear hk;have aW:=K1 hK7;have bS:=kfz hK7;have hz:=hK7.size;(try simp at hz);have dG:W.heap.size<w7.heap.size:=(by omega))))
 refine bodyPost_ret (v:=exV (.mk 3 0 R.1 []) none 0) (by simp [results,Tryz.results137,go_sem,exV,Ex.kind,Ex.n,Ex.name,Ex.sub, *]) rfl ?_;exact⟨⟨_,rfl,none,0,rfl,Kex _ _ fun V=>Ke2 V (by unfold maxLen;omega)⟩,Kd0 hp7 cm _ _ _ _,Kdp (K2 hK7) (Nat.le_refl _) _ _ _ _⟩
def Kis (B:Nat) (ts:List Tk) (A:Option Addr) (cap f:Nat) (fn:FuncId) (nt:NT) (st:St):Prop:=∀st' W',X2 B ts A cap W' st'->st.pos<st'.pos->st'.pos<=ts.length->Calls Tryz.prog fn #[.pointer (some ⟨B,0,none⟩)] W' (Kdq B ts A cap W' (K3 ts f nt st'))
theorem Kn7 {B b1 base:Nat} {W W':World} {P:World->Prop} {o:Obj} (h:Off base none W P) (hB:B<base) (hk:J6 (fun b=>b=B) (W.alloc o) W'):Off base none W' P:=h.kept hB (K2 hk)
theorem kc4 {B b:Nat} {W W':World} {x:Ex} {A:Option Addr} {c:Nat} (hk:J6 (fun b=>b=B) W W') (hb:b≠B) (am:b<W.heap.size) (h:W.cell? ⟨b,0,none⟩=some (.int .i64 x.kind)/\W.cell? ⟨b,1,none⟩=some (.int .i32 x.n)/\W.cell? ⟨b,2,none⟩=some (.string x.name)/\W.cell? ⟨b,3,none⟩=some (.slice A x.sub.length c)):W'.cell? ⟨b,0,none⟩=some (.int .i64 x.kind)/\W'.cell? ⟨b,1,none⟩=some (.int .i32 x.n)/\W'.cell? ⟨b,2,none⟩=some (.string x.name)/\W'.cell? ⟨b,3,none⟩=some (.slice A x.sub.length c):=
 ⟨(K1 hk _ _ hb am).trans h.1,(K1 hk _ _ hb am).trans h.2.1,(K1 hk _ _ hb am).trans h.2.2.1,(K1 hk _ _ hb am).trans h.2.2.2⟩
theorem ea4 {b:Nat} {W:World} {x:Ex} {A:Option Addr} {c:Nat} (o:Obj) (h:W.cell? ⟨b,0,none⟩=some (.int .i64 x.kind)/\W.cell? ⟨b,1,none⟩=some (.int .i32 x.n)/\W.cell? ⟨b,2,none⟩=some (.string x.name)/\W.cell? ⟨b,3,none⟩=some (.slice A x.sub.length c)):(W.alloc o).cell? ⟨b,0,none⟩=some (.int .i64 x.kind)/\(W.alloc o).cell? ⟨b,1,none⟩=some (.int .i32 x.n)/\(W.alloc o).cell? ⟨b,2,none⟩=some (.string x.name)/\(W.alloc o).cell? ⟨b,3,none⟩=some (.slice A x.sub.length c):=⟨J4 h.1,J4 h.2.1,J4 h.2.2.1,J4 h.2.2.2⟩
theorem Kiw (W:World) (x:Ex) (A:Option Addr) (c:Nat) (t:TypeId):(W.alloc (.cells #[.int .i64 x.kind,.int .i32 x.n,.string x.name,.slice A x.sub.length c] t)).cell? ⟨W.heap.size,0,none⟩=some (.int .i64 x.kind)/\(W.alloc (.cells #[.int .i64 x.kind,.int .i32 x.n,.string x.name,.slice A x.sub.length c] t)).cell? ⟨W.heap.size,1,none⟩=some (.int .i32 x.n)/\(W.alloc (.cells #[.int .i64 x.kind,.int .i32 x.n,.string x.name,.slice A x.sub.length c] t)).cell? ⟨W.heap.size,2,none⟩=some (.string x.name)/\(W.alloc (.cells #[.int .i64 x.kind,.int .i32 x.n,.string x.name,.slice A x.sub.length c] t)).cell? ⟨W.heap.size,3,none⟩=some (.slice A x.sub.length c):=by
 refine⟨?_,?_,?_,?_⟩ <;> rw [Kw] <;> rfl
theorem Klb {B:Nat} {ts:List Tk} {A:Option Addr} {cap f:Nat} {st:St} {W:World} (hx:Kis B ts A cap f 43 .expr st) (h:X2 B ts A cap W st) (ai:ts.length<=100000) (h0:((Kc7 ts st).getD tkZ).kind≠2) (h1:Kc5 ts st ⟨#[116,114,117,101]⟩=false) (h2:Kc5 ts st ⟨#[102,97,108,115,101]⟩=false)
  (h3:Kc5 ts st ⟨#[40]⟩=true) :
  Calls Tryz.prog 137 #[.pointer (some ⟨B,0,none⟩)] W (Kdq B ts A cap W ((K3 ts f .expr (Kc6 ts st ⟨#[40]⟩)).1,Kda ts (K3 ts f .expr (Kc6 ts st ⟨#[40]⟩)).2 ⟨#[41]⟩)):=by
 have am:=(Ket h3).1;rw [Kdu h3];have vK:=fun W' h=>hx ⟨st.pos+1,st.bad⟩ W' h (by simp) am;generalize K3 ts f .expr ⟨st.pos+1,st.bad⟩=R at vK ⊢;unfold Kdq Ke9 exV at vK;have cm:=h.lt;have nn:=h.le;have aS:W.heap.size≠B:=by omega
 have qU:=fun W' hb=>Kej (W:=W') (h.later hb);generalize (Kc7 ts st).getD tkZ=t at qU h0;generalize (Kc7 ts st).isSome=o at qU;obtain⟨tk,tx,tn,tp⟩:=t;unfold tkV at qU;dsimp only at qU h0;have t2:(tk == 2)=false:=by simpa using h0
 have HP:=Lib.hid h;clear h h0;clear hx;obtain⟨x,st2⟩:=R;dsimp only at vK ⊢
 go_enter Tryz.func137,Tryz.ntmps137
 go_wp2_with (first
  | (go_at_call 85;go_loud (refine(qU _ Jb).mono ?_;rintro r w1 ⟨rfl,ac⟩;have ii:=(HP.out.later (show Below W.heap.size W w1 from Jb)).alloc (.cells #[.int .i64 tk,.string tx,.int .i32 tn,.int .i64 tp] 103);have wd:=(J6.bel (S:=fun b=>b=B) ac).alloc (.cells #[.int .i64 tk,.string tx,.int .i32 tn,.int .i64 tp] 103)))
  | (go_at_call_of 18 (Value.string ⟨#[116,114,117,101]⟩);go_loud (refine(Kdf ii h1 ai).mono ?_;rintro r w2 ⟨rfl,gL,hk⟩;have zH:=wd.trans' hk;clear hk))
  | (go_at_call_of 18 (Value.string ⟨#[102,97,108,115,101]⟩);go_loud (refine(Kdf gL h2 ai).mono ?_;rintro r w3 ⟨rfl,ip,hk⟩;have hK3:=zH.trans' hk;clear hk))
  | (go_at_call_of 18 (Value.string ⟨#[40]⟩);go_loud (refine(Kdr ip h3 ai).mono ?_;rintro r w4 ⟨rfl,bT,hk⟩;have hK4:=hK3.trans' hk;clear hk;have aW:=K1 hK4;have bS:=kfz hK4;have hz:=hK4.size;(try simp at hz);have dG:W.heap.size<w4.heap.size:=(by omega)))
  | (go_at_call 43;go_loud (refine(vK _ bT).mono ?_;rintro r w5 ⟨⟨_,rfl,A5,c5,rfl,ho5⟩,dv,bb⟩;have yx:=bb.size;have er:w5.heap.size≠B:=(by omega)))
  | (go_at_call 37;go_loud (refine(Koc (dv.alloc _) ⟨#[41]⟩ ai).mono ?_;rintro r w6 ⟨rfl,tj,cu⟩;have aW:=K1 (hK4.trans' (bb.trans' (K2 cu)));have bS:=kfz (hK4.trans' (bb.trans' (K2 cu)));have hc6:=K1 cu;have hz6:=cu.size;(try simp at hz6);have dG:W.heap.size<w6.heap.size:=(by omega);have cA:w5.heap.size<w6.heap.size:=(by omega))))
 refine bodyPost_ret (v:=exV x A5 c5) (by simp [results,Tryz.results137,go_sem,exV, *]) rfl ?_;exact⟨⟨_,rfl,A5,c5,rfl,Kgf (Kn7 (b1:=0) ho5 (by omega) cu) (by omega) (by omega) _ _ _ _⟩,Kd0 tj cm _ _ _ _,Kdp (K2 (hK4.trans' (bb.trans' (K2 cu)))) (Nat.le_refl _) _ _ _ _⟩
theorem Kk2 {B:Nat} {ts:List Tk} {A:Option Addr} {cap f:Nat} {st:St} {W:World} (hx:Kis B ts A cap f 124 .factor st) (h:X2 B ts A cap W st) (ai:ts.length<=100000) (h0:((Kc7 ts st).getD tkZ).kind≠2) (h1:Kc5 ts st ⟨#[116,114,117,101]⟩=false) (h2:Kc5 ts st ⟨#[102,97,108,115,101]⟩=false)
  (h3:Kc5 ts st ⟨#[40]⟩=false) (h4:Kc5 ts st ⟨#[105,102]⟩=false) (h5:Kc5 ts st ⟨#[109,101,114,103,101]⟩=true) (C:ByteArray×St) (hC:C=Kdn ts (Kc6 ts st ⟨#[109,101,114,103,101]⟩)) (a b:Ex×St) (ha:a=K3 ts f .factor C.2) (hb:b=K3 ts f .factor a.2) :
  Calls Tryz.prog 137 #[.pointer (some ⟨B,0,none⟩)] W (Kdq B ts A cap W (.mk 10 0 C.1 [a.1,b.1],b.2)):=by
 have am:=(Ket h5).1;rw [Kdu h5] at hC;have aL:=fun W' (h':X2 B ts A cap W' ⟨st.pos+1,st.bad⟩)=>Kfd h' ai;have g1:=Kdz ts ⟨st.pos+1,st.bad⟩;rw [<-hC] at aL g1;have g1a:st.pos+1<=C.2.pos:=g1.1;have g1b:=g1.2 (by simp;omega);have vK:=fun W' h=>hx C.2 W' h (by omega) g1b;have g2:=Ke3 ts f .factor C.2;rw [<-ha] at vK g2;have g2a:=g2.1;have g2b:=g2.2 g1b;have qh:=fun W' h=>hx a.2 W' h (by omega) g2b;rw [<-hb] at qh;unfold Kdq Ke9 exV at vK qh;have cm:=h.lt;have nn:=h.le;have aS:W.heap.size≠B:=by omega
 have qU:=fun W' hb=>Kej (W:=W') (h.later hb);generalize (Kc7 ts st).getD tkZ=t at qU h0;generalize (Kc7 ts st).isSome=o at qU;obtain⟨tk,tx,tn,tp⟩:=t;unfold tkV at qU;dsimp only at qU h0;have t2:(tk == 2)=false:=by simpa using h0
 have HP:=Lib.hid h;clear h h0;clear hx hC ha hb g1 g2 g1a g1b g2a g2b;obtain⟨cn,st2⟩:=C;obtain⟨x,st3⟩:=a;obtain⟨y,st4⟩:=b;dsimp only at vK qh aL ⊢
 go_enter Tryz.func137,Tryz.ntmps137
 go_wp2_with (first
  | (go_at_call 85;go_loud (refine(qU _ Jb).mono ?_;rintro r w1 ⟨rfl,ac⟩;have ii:=(HP.out.later (show Below W.heap.size W w1 from Jb)).alloc (.cells #[.int .i64 tk,.string tx,.int .i32 tn,.int .i64 tp] 103);have wd:=(J6.bel (S:=fun b=>b=B) ac).alloc (.cells #[.int .i64 tk,.string tx,.int .i32 tn,.int .i64 tp] 103)))
  | (go_at_call_of 18 (Value.string ⟨#[116,114,117,101]⟩);go_loud (refine(Kdf ii h1 ai).mono ?_;rintro r w2 ⟨rfl,gL,hk⟩;have zH:=wd.trans' hk;clear hk))
  | (go_at_call_of 18 (Value.string ⟨#[102,97,108,115,101]⟩);go_loud (refine(Kdf gL h2 ai).mono ?_;rintro r w3 ⟨rfl,ip,hk⟩;have hK3:=zH.trans' hk;clear hk))
  | (go_at_call_of 18 (Value.string ⟨#[40]⟩);go_loud (refine(Kdf ip h3 ai).mono ?_;rintro r w4 ⟨rfl,bT,hk⟩;have hK4:=hK3.trans' hk;clear hk))
  | (go_at_call_of 18 (Value.string ⟨#[105,102]⟩);go_loud (refine(Kdf bT h4 ai).mono ?_;rintro r w5 ⟨rfl,dv,hk⟩;have hK5:=hK4.trans' hk;clear hk))
  | (go_at_call_of 18 (Value.string ⟨#[109,101,114,103,101]⟩);go_loud (refine(Kdr dv h5 ai).mono ?_;rintro r w6 ⟨rfl,tj,hk⟩;have hK6:=hK5.trans' hk;clear hk))
  | (go_at_call 38;go_loud (refine(aL _ tj).mono ?_;rintro r w7 ⟨rfl,hp7,hk⟩;have hK7:=hK6.trans' hk;clear hk;have hz:=hK7.size;(try simp at hz)))
  | (go_at_call 124;go_loud (refine(vK _ hp7).mono ?_;rintro r w8 ⟨⟨_,rfl,A8,c8,rfl,ho8⟩,hp8,hk8⟩;have hz8:=hk8.size;have er:w8.heap.size≠B:=(by omega);have cA:w8.heap.size<(w8.alloc (.cells #[.int .i64 x.kind,.int .i32 x.n,.string x.name,.slice A8 x.sub.length c8] 73)).heap.size:=(by simp))))
 have q:=Kiw w8 x A8 c8 73;have wu:=hp8.alloc (.cells #[.int .i64 x.kind,.int .i32 x.n,.string x.name,.slice A8 x.sub.length c8] 73);refine Kd (fun V:World=>V.cell? ⟨w8.heap.size,0,none⟩=some (.int .i64 x.kind)/\V.cell? ⟨w8.heap.size,1,none⟩=some (.int .i32 x.n)/\V.cell? ⟨w8.heap.size,2,none⟩=some (.string x.name)/\V.cell? ⟨w8.heap.size,3,none⟩=some (.slice A8 x.sub.length c8)) 5 2 (by kernel_rfl) (by rfl) ?_;simp only [List.size_toArray,List.length_cons,List.length_nil,Nat.zero_add,Nat.reduceAdd];have ar:(w8.alloc (.cells #[.int .i64 x.kind,.int .i32 x.n,.string x.name,.slice A8 x.sub.length c8] 73)).drew.cell? ⟨w8.heap.size,0,none⟩=some (.int .i64 x.kind)/\(w8.alloc (.cells #[.int .i64 x.kind,.int .i32 x.n,.string x.name,.slice A8 x.sub.length c8] 73)).drew.cell? ⟨w8.heap.size,1,none⟩=some (.int .i32 x.n)/\(w8.alloc (.cells #[.int .i64 x.kind,.int .i32 x.n,.string x.name,.slice A8 x.sub.length c8] 73)).drew.cell? ⟨w8.heap.size,2,none⟩=some (.string x.name)/\(w8.alloc (.cells #[.int .i64 x.kind,.int .i32 x.n,.string x.name,.slice A8 x.sub.length c8] 73)).drew.cell? ⟨w8.heap.size,3,none⟩=some (.slice A8 x.sub.length c8):=q;refine Ji 0 ar ?_;refine Ji 1 ar ?_;refine Ji 2 ar ?_;refine Kb 3 ?_;refine Jj fun K hK=>?_;go_simp;refine(qh _ wu.drew).mono ?_;rintro r w9 ⟨⟨_,rfl,A9,c9,rfl,ho9⟩,hp9,hk9⟩;dsimp only;have q9:=kc4 hk9 er cA q;refine hK _ _ ⟨q9,?_⟩;clear hK K
 try simp only [Act.put,sa1,sa2,sa3]
 refine Kb 4 ?_;refine Jj fun K hK=>?_;go_simp;refine hK _ _ ⟨ea4 _ q9,?_⟩;clear hK K
 try simp only [Act.put,sa1,sa2,sa3]
 have hk:=hK7.trans' (hk8.trans' ((J6.refl w8).alloc (.cells #[.int .i64 x.kind,.int .i32 x.n,.string x.name,.slice A8 x.sub.length c8] 73) |>.drew.trans' hk9));have aW:=K1 hk;have bS:=kfz hk;have hz9:=hk9.size;replace hz9:w8.heap.size+1<=w9.heap.size:=by simpa using hz9
 have dG:W.heap.size<w9.heap.size:=by omega
 have ho8':Off (W.heap.size+1) none w9 (fun V=>Jt V x A8 c8):=(ho8.kept (by omega) ((J6.refl w8).alloc (.cells #[.int .i64 x.kind,.int .i32 x.n,.string x.name,.slice A8 x.sub.length c8] 73) |>.drew.trans' hk9)).less (by omega);have ho9':Off (W.heap.size+1) none w9 (fun V=>Jt V y A9 c9):=ho9.less (by show W.heap.size+1<=(w8.alloc _).heap.size;simp;omega);clear q q9 ar hk8 hk9 ho8 ho9 wd hK5 hK6 hK7 wu;refine Kh (by kernel_rfl) ?_;refine Qx 5 ?_;refine Jj fun K hK=>?_;go_simp;refine hK _ _ ?_;clear hK K
 try simp only [Act.put,sa1,sa2,sa3]
 refine Qx 6 ?_;refine Jj fun K hK=>?_;go_simp;refine hK _ _ ?_;clear hK K
 try simp only [Act.put,sa1,sa2,sa3]
 refine Ki (by kernel_rfl) ?_
 go_wp2_with fail
 refine bodyPost_ret (v:=exV (.mk 10 0 cn [x,y]) (some ⟨w9.heap.size,0,none⟩) 2) (by simp [results,Tryz.results137,go_sem,exV,Ex.kind,Ex.n,Ex.name,Ex.sub, *]) rfl ?_;exact⟨⟨_,rfl,_,_,rfl,Knp ho8' ho9' (by omega) (by omega) (by omega) (by omega) (by omega)⟩,Kga hp9 cm _ _ _ _ _,Kfp (K2 hk) (Nat.le_refl _) _ _ _ _ _⟩
theorem Knq {B:Nat} {ts:List Tk} {A:Option Addr} {cap f:Nat} {st:St} {W:World} (hx:Kis B ts A cap f 43 .expr st) (h:X2 B ts A cap W st) (ai:ts.length<=100000) (h0:((Kc7 ts st).getD tkZ).kind≠2) (h1:Kc5 ts st ⟨#[116,114,117,101]⟩=false) (h2:Kc5 ts st ⟨#[102,97,108,115,101]⟩=false)
  (h3:Kc5 ts st ⟨#[40]⟩=false) (h4:Kc5 ts st ⟨#[105,102]⟩=true) (C:Ex×St) (hC:C=K3 ts f .expr (Kc6 ts st ⟨#[105,102]⟩)) (a b:Ex×St) (ha:a=K3 ts f .expr (Kda ts C.2 ⟨#[116,104,101,110]⟩)) (hb:b=K3 ts f .expr (Kda ts a.2 ⟨#[101,108,115,101]⟩)) :
  Calls Tryz.prog 137 #[.pointer (some ⟨B,0,none⟩)] W (Kdq B ts A cap W (.mk 6 0 ⟨#[]⟩ [C.1,a.1,b.1],b.2)):=by
 have am:=(Ket h4).1;rw [Kdu h4] at hC;have g0:=Ke3 ts f .expr ⟨st.pos+1,st.bad⟩;have hx0:=fun W' h=>hx ⟨st.pos+1,st.bad⟩ W' h (by simp) (by simp;omega);rw [<-hC] at hx0 g0;have g0a:st.pos+1<=C.2.pos:=g0.1;have g0b:=g0.2 (by simp;omega);have g1:=Kdc ts C.2 ⟨#[116,104,101,110]⟩;have eR:=fun W' (h':X2 B ts A cap W' C.2)=>Koc h' ⟨#[116,104,101,110]⟩ ai;generalize Kda ts C.2 ⟨#[116,104,101,110]⟩=s1 at ha g1 eR;have g1a:=g1.1;have g1b:=g1.2 g0b;have g2:=Ke3 ts f .expr s1;have vK:=fun W' h=>hx s1 W' h (by omega) g1b;rw [<-ha] at vK g2;have g2a:=g2.1;have g2b:=g2.2 g1b;have g3:=Kdc ts a.2 ⟨#[101,108,115,101]⟩;have eu:=fun W' (h':X2 B ts A cap W' a.2)=>Koc h' ⟨#[101,108,115,101]⟩ ai;generalize Kda ts a.2 ⟨#[101,108,115,101]⟩=s2 at hb g3 eu;have g3a:=g3.1;have g3b:=g3.2 g2b;have qh:=fun W' h=>hx s2 W' h (by omega) g3b;rw [<-hb] at qh;unfold Kdq Ke9 exV at hx0 vK qh;have cm:=h.lt;have nn:=h.le;have aS:W.heap.size≠B:=by omega
 have qU:=fun W' hb=>Kej (W:=W') (h.later hb);generalize (Kc7 ts st).getD tkZ=t at qU h0;generalize (Kc7 ts st).isSome=o at qU;obtain⟨tk,tx,tn,tp⟩:=t;unfold tkV at qU;dsimp only at qU h0;have t2:(tk == 2)=false:=by simpa using h0
 have HP:=Lib.hid h;clear h h0;clear hx hC ha hb g0 g1 g2 g3 g0a g0b g1a g1b g2a g2b g3a g3b;obtain⟨x,st2⟩:=C;obtain⟨y,st3⟩:=a;obtain⟨z,st4⟩:=b;dsimp only at hx0 vK qh eR eu ⊢
 go_enter Tryz.func137,Tryz.ntmps137
 go_wp2_with (first
  | (go_at_call 85;go_loud (refine(qU _ Jb).mono ?_;rintro r w1 ⟨rfl,ac⟩;have ii:=(HP.out.later (show Below W.heap.size W w1 from Jb)).alloc (.cells #[.int .i64 tk,.string tx,.int .i32 tn,.int .i64 tp] 103);have wd:=(J6.bel (S:=fun b=>b=B) ac).alloc (.cells #[.int .i64 tk,.string tx,.int .i32 tn,.int .i64 tp] 103)))
  | (go_at_call_of 18 (Value.string ⟨#[116,114,117,101]⟩);go_loud (refine(Kdf ii h1 ai).mono ?_;rintro r w2 ⟨rfl,gL,hk⟩;have zH:=wd.trans' hk;clear hk))
  | (go_at_call_of 18 (Value.string ⟨#[102,97,108,115,101]⟩);go_loud (refine(Kdf gL h2 ai).mono ?_;rintro r w3 ⟨rfl,ip,hk⟩;have hK3:=zH.trans' hk;clear hk))
  | (go_at_call_of 18 (Value.string ⟨#[40]⟩);go_loud (refine(Kdf ip h3 ai).mono ?_;rintro r w4 ⟨rfl,bT,hk⟩;have hK4:=hK3.trans' hk;clear hk))
  | (go_at_call_of 18 (Value.string ⟨#[105,102]⟩);go_loud (refine(Kdr bT h4 ai).mono ?_;rintro r w5 ⟨rfl,dv,hk⟩;have hK5:=hK4.trans' hk;clear hk;have hz:=hK5.size;(try simp at hz)))
  | (go_at_call_of 37 (Value.string ⟨#[101,108,115,101]⟩);go_loud (refine(eu _ (hp8.alloc _)).mono ?_;rintro r w9 ⟨rfl,hp9,hk9⟩;have hz9:=hk9.size;(try simp at hz9)))
  | (go_at_call_of 37 (Value.string ⟨#[116,104,101,110]⟩);go_loud (refine(eR _ (tj.alloc _)).mono ?_;rintro r w7 ⟨rfl,hp7,hk7⟩;have hz7:=hk7.size;(try simp at hz7)))
  | (go_at_call 43;go_loud (refine(vK _ hp7).mono ?_;rintro r w8 ⟨⟨_,rfl,A8,c8,rfl,ho8⟩,hp8,hk8⟩;have hz8:=hk8.size))
  | (go_at_call 43;go_loud (refine(hx0 _ dv).mono ?_;rintro r w6 ⟨⟨_,rfl,A6,c6,rfl,ho6⟩,tj,cu⟩;have hz6:=cu.size)))
 have hn6:w6.heap.size≠B:=by omega
 have hn8:w8.heap.size≠B:=by omega
 have k67:J6 (fun b=>b=B) (w6.alloc (.cells #[.int .i64 x.kind,.int .i32 x.n,.string x.name,.slice A6 x.sub.length c6] 73)) w9:=hk7.trans' (hk8.trans' (K2 hk9));have q6:=kc4 k67 hn6 (by simp) (Kiw w6 x A6 c6 73);have q8:=kc4 hk9 hn8 (by simp) (Kiw w8 y A8 c8 73);refine Kd (fun V:World=>(V.cell? ⟨w6.heap.size,0,none⟩=some (.int .i64 x.kind)/\V.cell? ⟨w6.heap.size,1,none⟩=some (.int .i32 x.n)/\V.cell? ⟨w6.heap.size,2,none⟩=some (.string x.name)/\V.cell? ⟨w6.heap.size,3,none⟩=some (.slice A6 x.sub.length c6))/\(V.cell? ⟨w8.heap.size,0,none⟩=some (.int .i64 y.kind)/\V.cell? ⟨w8.heap.size,1,none⟩=some (.int .i32 y.n)/\V.cell? ⟨w8.heap.size,2,none⟩=some (.string y.name)/\V.cell? ⟨w8.heap.size,3,none⟩=some (.slice A8 y.sub.length c8))) 4 3 (by kernel_rfl) (by rfl) ?_;simp only [List.size_toArray,List.length_cons,List.length_nil,Nat.zero_add,Nat.reduceAdd];have ar:(w9.drew.cell? ⟨w6.heap.size,0,none⟩=some (.int .i64 x.kind)/\w9.drew.cell? ⟨w6.heap.size,1,none⟩=some (.int .i32 x.n)/\w9.drew.cell? ⟨w6.heap.size,2,none⟩=some (.string x.name)/\w9.drew.cell? ⟨w6.heap.size,3,none⟩=some (.slice A6 x.sub.length c6))/\(w9.drew.cell? ⟨w8.heap.size,0,none⟩=some (.int .i64 y.kind)/\w9.drew.cell? ⟨w8.heap.size,1,none⟩=some (.int .i32 y.n)/\w9.drew.cell? ⟨w8.heap.size,2,none⟩=some (.string y.name)/\w9.drew.cell? ⟨w8.heap.size,3,none⟩=some (.slice A8 y.sub.length c8)):=⟨q6,q8⟩;refine Ji 0 ar ?_;refine Ji 1 ar ?_;refine Ji 2 ar ?_;have lH:w6.heap.size<w9.drew.heap.size:=by show w6.heap.size<w9.heap.size;omega
 have hy8:w8.heap.size<w9.drew.heap.size:=by show w8.heap.size<w9.heap.size;omega
 refine Kb 3 ?_;refine Jj fun K hK=>?_;go_simp;refine(qh _ hp9.drew).mono ?_;rintro r wz ⟨⟨_,rfl,Az,cz,rfl,hoz⟩,hpz,hkz⟩;dsimp only;refine hK _ _ ⟨⟨kc4 hkz hn6 lH q6,kc4 hkz hn8 hy8 q8⟩,?_⟩;clear hK K
 try simp only [Act.put,sa1,sa2,sa3]
 have eI:w9.heap.size<=wz.heap.size:=hkz.size;have hk:=hK5.trans' (cu.trans' ((K2 k67).trans' ((J6.refl w9).drew.trans' hkz)));have aW:=K1 hk;have bS:=kfz hk;have dG:W.heap.size<wz.heap.size:=by omega
 have ho6':Off (W.heap.size+1) none wz (fun V=>Jt V x A6 c6):=(ho6.kept (by omega) ((K2 k67).trans' ((J6.refl w9).drew.trans' hkz))).less (by omega);have ho8':Off (W.heap.size+1) none wz (fun V=>Jt V y A8 c8):=(ho8.kept (by omega) ((K2 hk9).trans' ((J6.refl w9).drew.trans' hkz))).less (by omega);have hoz':Off (W.heap.size+1) none wz (fun V=>Jt V z Az cz):=hoz.less (by show W.heap.size+1<=w9.heap.size;omega);clear q6 q8 ar cu hk7 hk8 hk9 hkz ho6 ho8 hoz wd hK5 k67;refine Kh (by kernel_rfl) ?_;refine Qx 4 ?_;refine Jj fun K hK=>?_;go_simp;refine hK _ _ ?_;clear hK K
 try simp only [Act.put,sa1,sa2,sa3]
 refine Qx 5 ?_;refine Jj fun K hK=>?_;go_simp;refine hK _ _ ?_;clear hK K
 try simp only [Act.put,sa1,sa2,sa3]
 refine Qx 6 ?_;refine Jj fun K hK=>?_;go_simp;refine hK _ _ ?_;clear hK K
 try simp only [Act.put,sa1,sa2,sa3]
 refine Ki (by kernel_rfl) ?_
 go_wp2_with fail
 refine bodyPost_ret (v:=exV (.mk 6 0 ⟨#[]⟩ [x,y,z]) (some ⟨wz.heap.size,0,none⟩) 3) (by simp [results,Tryz.results137,go_sem,exV,Ex.kind,Ex.n,Ex.name,Ex.sub, *]) rfl ?_;exact⟨⟨_,rfl,_,_,rfl,Kn9 ho6' ho8' hoz' (by omega) (by omega) (by omega) (by omega) (by omega) (by omega) (by omega)⟩,Kga hpz cm _ _ _ _ _,Kfp (K2 hk) (Nat.le_refl _) _ _ _ _ _⟩
theorem Kmj {B:Nat} {ts:List Tk} {A:Option Addr} {cap f:Nat} {st:St} {W:World} (ih:Kgx B ts A cap f) (h:X2 B ts A cap W st) (ai:ts.length<=100000) (hf:12 * (ts.length-st.pos)<f+1) :
  Calls Tryz.prog 137 #[.pointer (some ⟨B,0,none⟩)] W (Kdq B ts A cap W (K3 ts (f+1) .atom st)):=by
 have hx:Kis B ts A cap f 43 .expr st:=fun st' W' hp h1 h2=>(ih st' W' hp).1 (by omega);have eB:Kis B ts A cap f 124 .factor st:=fun st' W' hp h1 h2=>(ih st' W' hp).2.2.2.1 (by omega);rw [K3]
 split
 ·rename_i h0;exact Km1 h ai h0
 ·rename_i h0
  split
  ·rename_i h1;exact Kmh h ai h0 h1
  ·rename_i h1;replace h1:=Bool.not_eq_true _ ▸ h1
   split
   ·rename_i h2;exact Klg h ai h0 h1 h2
   ·rename_i h2;replace h2:=Bool.not_eq_true _ ▸ h2
    split
    ·rename_i h3;exact Klb hx h ai h0 h1 h2 h3
    ·rename_i h3;replace h3:=Bool.not_eq_true _ ▸ h3
     split
     ·rename_i h4;exact Knq hx h ai h0 h1 h2 h3 h4 _ rfl _ _ rfl rfl
     ·rename_i h4;replace h4:=Bool.not_eq_true _ ▸ h4
      split
      ·rename_i h5;exact Kk2 eB h ai h0 h1 h2 h3 h4 h5 _ rfl _ _ rfl rfl
      ·rename_i h5;exact Kms h ai h0 h1 h2 h3 h4 (Bool.not_eq_true _ ▸ h5)
section
variable {P:Program} {ops:Array Oper} {Q:Exit->Act->World->Prop} {md:Region.Mode} {S:World->Prop}
theorem Kja {n g i j:Nat} {oi oj:Oper} {f:Nat} {listed:Array Bool} {a:Act} {w:World} (hr:Region.ready md ops listed = [i,j]) (hi:ops[i]?=some oi) (hj:ops[j]?=some oj) (hg:oi.guard=none) (hgj:oj.guard=none)
  (h:oi.wp P a w (fun a' w'=>S w'/\Jab P md ops Q S n g f (listed.setIfInBounds i true) a' w') Q) (h2:oj.wp P a w (fun a' w'=>S w'/\Jab P md ops Q S n g f (listed.setIfInBounds j true) a' w') Q):Jab P md ops Q S n g (f+1) listed a w:=by
 refine⟨fun h0=>(by rw [hr] at h0;cases h0),fun k hk=>?_⟩;rw [hr] at hk;simp only [List.mem_cons,List.not_mem_nil,or_false] at hk
 rcases hk with rfl|rfl
 ·unfold wpOp;have hw:Region.wanted oi (yielded ops a.tmps)=true:=by simp [Region.wanted,hg]
  simp only [hi,hw,if_true];exact .inl h
 ·unfold wpOp;have hw:Region.wanted oj (yielded ops a.tmps)=true:=by simp [Region.wanted,hgj]
  simp only [hj,hw,if_true];exact .inl h2
end
structure Ked (B z g:Nat) (ts:List Tk) (A:Option Addr) (cap:Nat) (W w:World) (x:Ex) (st:St) (Ax:Option Addr) (cx:Nat):Prop where
 ps:X2 B ts A cap w st
 kept:J6 (fun b=>b=B) W w
 here:w.cell? ⟨g,0,none⟩=some (.int .i64 x.kind)/\w.cell? ⟨g,1,none⟩=some (.int .i32 x.n)/\w.cell? ⟨g,2,none⟩=some (.string x.name)/\w.cell? ⟨g,3,none⟩=some (.slice Ax x.sub.length cx)
 r0:w.cell? ⟨z,0,none⟩=some (.int .i64 0)
 r1:w.cell? ⟨z,1,none⟩=some (.int .i32 0)
 r2:w.cell? ⟨z,2,none⟩=some (.string ⟨#[]⟩)
 r3:w.cell? ⟨z,3,none⟩=some (.slice none 0 0)
 fz:∀o,w.frozen? ⟨z,o,none⟩=false
 fg:∀o,w.frozen? ⟨g,o,none⟩=false
 off:Off (z+1) (some g) w (fun V=>Jt V x Ax cx)
 Bz:B<z
 Wz:W.heap.size=z
 zg:z<g
 glt:g<w.heap.size
theorem Ked.on {B z g:Nat} {ts:List Tk} {A:Option Addr} {cap:Nat} {W w w':World} {x:Ex} {st st':St} {Ax:Option Addr} {cx:Nat} (h:Ked B z g ts A cap W w x st Ax cx) (hk:J6 (fun b=>b=B) w w') (hp:X2 B ts A cap w' st'):Ked B z g ts A cap W w' x st' Ax cx:=by
 have hBz:=h.Bz;have kI:=h.zg;have eS:=h.glt;have nz:z≠B:=by omega
 have ng:g≠B:=by omega
 exact⟨hp,h.kept.trans' hk,kc4 hk ng eS h.here,(K1 hk _ _ nz (by omega)).trans h.r0,(K1 hk _ _ nz (by omega)).trans h.r1,(K1 hk _ _ nz (by omega)).trans h.r2,(K1 hk _ _ nz (by omega)).trans h.r3,
  fun o=>(kfz hk _ _ nz (by omega)).trans (h.fz o),fun o=>(kfz hk _ _ ng eS).trans (h.fg o),h.off.grow (fun k h1 h2 _=>hk.block k h2 (by show ¬k=B;omega)) hk.size (.inl rfl),hBz,h.Wz,kI,Nat.lt_of_lt_of_le eS hk.size⟩
theorem Ked.start {B:Nat} {ts:List Tk} {A:Option Addr} {cap:Nat} {W w:World} {x:Ex} {st:St} {Ax:Option Addr} {cx:Nat} {tz t:TypeId} (hp:X2 B ts A cap w st) (hB:B<W.heap.size)
  (hk:J6 (fun b=>b=B) (W.alloc (.cells #[.int .i64 0,.int .i32 0,.string ⟨#[]⟩,.slice none 0 0] tz)) w) (ho:Off (W.heap.size+1) none w (fun V=>Jt V x Ax cx)) :
  Ked B W.heap.size w.heap.size ts A cap W (w.alloc (.cells #[.int .i64 x.kind,.int .i32 x.n,.string x.name,.slice Ax x.sub.length cx] t)) x st Ax cx:=by
 have hz:=hk.size;replace hz:W.heap.size+1<=w.heap.size:=by simpa using hz
 have hc:∀j v,(W.alloc (.cells #[.int .i64 0,.int .i32 0,.string ⟨#[]⟩,.slice none 0 0] tz)).cell? ⟨W.heap.size,j,none⟩=some v->(w.alloc (.cells #[.int .i64 x.kind,.int .i32 x.n,.string x.name,.slice Ax x.sub.length cx] t)).cell? ⟨W.heap.size,j,none⟩=some v:=fun j v hv=>J4 ((K1 hk _ _ (by omega) (by simp)).trans hv);refine⟨hp.alloc _,(K2 hk).alloc _,Kiw _ _ _ _ _,hc _ _ (by rw [Kw];rfl),hc _ _ (by rw [Kw];rfl),hc _ _ (by rw [Kw];rfl),hc _ _ (by rw [Kw];rfl),fun o=>?_,fun o=>?_,?_,hB,rfl,by omega,by simp⟩
 ·rw [Jf (Jc (Below.refl _ _) _) _ _ (by omega),kfz hk _ _ (by omega) (by simp)];go_simp
 ·go_simp
 ·exact ho.grow (fun k _ h2 _=>(Jc (Below.refl w.heap.size w) _).block k h2) (by simp) (.inr fun k hk=>by injection hk with hk;omega)
theorem Kh3 {W:World} {c:Nat} {u0 u1 u2 u3:Value} (v0 v1 v2 v3:Value) (h0:W.cell? ⟨c,0,none⟩=some u0) (h1:W.cell? ⟨c,1,none⟩=some u1) (h2:W.cell? ⟨c,2,none⟩=some u2) (h3:W.cell? ⟨c,3,none⟩=some u3) :
  (Kel W c v0 v1 v2 v3).cell? ⟨c,0,none⟩=some v0/\(Kel W c v0 v1 v2 v3).cell? ⟨c,1,none⟩=some v1/\(Kel W c v0 v1 v2 v3).cell? ⟨c,2,none⟩=some v2/\(Kel W c v0 v1 v2 v3).cell? ⟨c,3,none⟩=some v3:=by
 unfold Kel;refine⟨?_,?_,?_,?_⟩
 ·rw [J5 _ _ _ _ _ (by decide),J5 _ _ _ _ _ (by decide),J5 _ _ _ _ _ (by decide)];exact World.cell?_setCell_same _ _ _ h0
 ·rw [J5 _ _ _ _ _ (by decide),J5 _ _ _ _ _ (by decide)];exact World.cell?_setCell_same _ _ _ (by rw [J5 _ _ _ _ _ (by decide)];exact h1)
 ·rw [J5 _ _ _ _ _ (by decide)];exact World.cell?_setCell_same _ _ _ (by rw [J5 _ _ _ _ _ (by decide),J5 _ _ _ _ _ (by decide)];exact h2)
 ·exact World.cell?_setCell_same _ _ _ (by rw [J5 _ _ _ _ _ (by decide),J5 _ _ _ _ _ (by decide),J5 _ _ _ _ _ (by decide)];exact h3)
theorem Kgq (W:World) (c:Nat) (v0 v1 v2 v3:Value) (p:Addr):(Kel W c v0 v1 v2 v3).frozen? p=W.frozen? p:=by unfold Kel;rw [World.frozen?_setCell,World.frozen?_setCell,World.frozen?_setCell,World.frozen?_setCell]
theorem Ked.put {B z g:Nat} {ts:List Tk} {A:Option Addr} {cap:Nat} {W w:World} {x y:Ex} {st:St} {Ax Ay:Option Addr} {cx cy:Nat} (h:Ked B z g ts A cap W w x st Ax cx) (hy:Off (z+1) (some g) w (fun V=>Jt V y Ay cy)) :
  Ked B z g ts A cap W (Kel w g (.int .i64 y.kind) (.int .i32 y.n) (.string y.name) (.slice Ay y.sub.length cy)) y st Ay cy:=by
 have kI:=h.zg;have hBz:=h.Bz;have hWz:=h.Wz;have hc:∀j v,w.cell? ⟨z,j,none⟩=some v->(Kel w g (.int .i64 y.kind) (.int .i32 y.n) (.string y.name) (.slice Ay y.sub.length cy)).cell? ⟨z,j,none⟩=some v:=fun j v hv=>Jr (Kfr _ _ _ _ _ _ (by show z≠g;omega)) hv;refine⟨Kd0 h.ps (by omega) _ _ _ _,Kdp h.kept (by omega) _ _ _ _,Kh3 _ _ _ _ h.here.1 h.here.2.1 h.here.2.2.1 h.here.2.2.2,hc _ _ h.r0,hc _ _ h.r1,hc _ _ h.r2,hc _ _ h.r3,fun o=>(Kgq ..).trans (h.fz o),fun o=>(Kgq ..).trans (h.fg o),?_,hBz,hWz,kI,by rw [Keq];exact h.glt⟩;exact hy.grow (fun k _ _ aS=>Kfr _ _ _ _ _ _ (fun he=>aS (by rw [he]))) (by rw [Keq];exact Nat.le_refl _) (.inl rfl)
theorem Ked.alloc {B z g:Nat} {ts:List Tk} {A:Option Addr} {cap:Nat} {W w:World} {x:Ex} {st:St} {Ax:Option Addr} {cx:Nat} (h:Ked B z g ts A cap W w x st Ax cx) (o:Obj):Ked B z g ts A cap W (w.alloc o) x st Ax cx:=h.on ((J6.refl w).alloc o) (h.ps.alloc o)
theorem Ked.drew {B z g:Nat} {ts:List Tk} {A:Option Addr} {cap:Nat} {W w:World} {x:Ex} {st:St} {Ax:Option Addr} {cx:Nat} (h:Ked B z g ts A cap W w x st Ax cx):Ked B z g ts A cap W w.drew x st Ax cx:=h.on (J6.refl w).drew h.ps.drew
theorem Kj7 {base g c:Nat} {W:World} {k n:Int} {nm:ByteArray} {l:List Ex} {ls:List (Option Addr×Nat)} (ss:base<=c) (am:c<W.heap.size) (aS:c≠g) (hl:ls.length=l.length) (hn:l.length<=100)
  (hc:∀j u,(Ya l ls)[j]?=some u->W.cell? ⟨c,j,none⟩=some u) (hs:∀(j:Nat) (y:Ex) (a:Option Addr×Nat),l[j]?=some y->ls[j]?=some a->Off base (some g) W (fun V=>Jt V y a.1 a.2)) :
  Off base (some g) W (fun V=>Jt V (.mk k n nm l) (some ⟨c,0,none⟩) l.length):=fun w' jC=>by
 show Jt w' _ _ _;rw [Jao];refine⟨Nat.le_refl _,by unfold maxLen;omega,fun _=>⟨c,0,rfl,Xv.of_cells _ ls 0 hl (fun j u hj=>?_) fun j y a hy ha=>hs j y a hy ha w' jC⟩⟩;rw [Nat.zero_add];exact Jr (jC c ss am (by intro he;injection he with he;exact aS he)) (hc j u hj)
theorem Kh0 {base g c:Nat} {W:World} {k n:Int} {nm:ByteArray} {x:Ex} {a:Option Addr} {ca:Nat} (ss:base<=c) (am:c<W.heap.size) (aS:c≠g) (hc:∀j u,(exC x (a,ca))[j]?=some u->W.cell? ⟨c,j,none⟩=some u)
  (h:Off base (some g) W (fun V=>Jt V x a ca)):Off base (some g) W (fun V=>Jt V (.mk k n nm [x]) (some ⟨c,0,none⟩) 1):=
 Kj7 (l:=[x]) (ls:=[(a,ca)]) ss am aS rfl (by simp) (fun j u hj=>hc j u (by simpa [Ya] using hj)) fun j y b hy hb=>by
  match j,hy,hb with
  | 0,hy,hb=>simp at hy hb;subst hy hb;exact h
theorem Kl1 {base g c:Nat} {W:World} {k n:Int} {nm:ByteArray} {x y:Ex} {a b:Option Addr} {ca cb:Nat} (ss:base<=c) (am:c<W.heap.size) (aS:c≠g) (hc:∀j u,(exC x (a,ca) ++ exC y (b,cb))[j]?=some u->W.cell? ⟨c,j,none⟩=some u)
  (h:Off base (some g) W (fun V=>Jt V x a ca)) (h':Off base (some g) W (fun V=>Jt V y b cb)):Off base (some g) W (fun V=>Jt V (.mk k n nm [x,y]) (some ⟨c,0,none⟩) 2):=
 Kj7 (l:=[x,y]) (ls:=[(a,ca),(b,cb)]) ss am aS rfl (by simp) (fun j u hj=>hc j u (by simpa [Ya] using hj)) fun j q e hq he=>by
  match j,hq,he with
  | 0,hq,he=>simp at hq he;subst hq he;exact h
  | 1,hq,he=>simp at hq he;subst hq he;exact h'
theorem Ked.last1 {B z g:Nat} {ts:List Tk} {A:Option Addr} {cap:Nat} {W w:World} {x:Ex} {st:St} {Ax:Option Addr} {cx:Nat} (h:Ked B z g ts A cap W w x st Ax cx) (k:Int) (nm:ByteArray) (t:TypeId) :
  Ked B z g ts A cap W ((Kel w g (.int .i64 k) (.int .i32 0) (.string nm) (.slice (some ⟨w.heap.size,0,none⟩) 1 1)).alloc (.cells #[.int .i64 x.kind,.int .i32 x.n,.string x.name,.slice Ax x.sub.length cx] t)) (.mk k 0 nm [x]) st (some ⟨w.heap.size,0,none⟩) 1:=by
 have eS:=h.glt;have kI:=h.zg;have hBz:=h.Bz;have hWz:=h.Wz;have hc:∀j v,w.cell? ⟨z,j,none⟩=some v->(Kel w g (.int .i64 k) (.int .i32 0) (.string nm) (.slice (some ⟨w.heap.size,0,none⟩) 1 1)).cell? ⟨z,j,none⟩=some v:=fun j v hv=>Jr (Kfr _ _ _ _ _ _ (by show z≠g;omega)) hv;have hh:=Kh3 (.int .i64 k) (.int .i32 0) (.string nm) (.slice (some ⟨w.heap.size,0,none⟩) 1 1) h.here.1 h.here.2.1 h.here.2.2.1 h.here.2.2.2;refine⟨Kga h.ps (by omega) _ _ _ _ _,Kfp h.kept (by omega) _ _ _ _ _,⟨J4 hh.1,J4 hh.2.1,J4 hh.2.2.1,J4 hh.2.2.2⟩,J4 (hc _ _ h.r0),J4 (hc _ _ h.r1),J4 (hc _ _ h.r2),J4 (hc _ _ h.r3),fun o=>?_,fun o=>?_,?_,hBz,hWz,kI,by rw [Kfq];omega⟩
 ·rw [Jf (Jc (Below.refl _ _) _) _ _ (by rw [Keq];omega),Kgq];exact h.fz o
 ·rw [Jf (Jc (Below.refl _ _) _) _ _ (by rw [Keq];omega),Kgq];exact h.fg o
 ·refine Kh0 (by omega) (by rw [Kfq];omega) (by omega) (fun j u hj=>by rw [Kgv];simpa [exC] using hj) ?_;refine h.off.grow (fun k _ h2 aS=>?_) (by rw [Kfq];omega) (.inl rfl);rw [(Jc (Below.refl _ _) _).block k (by rw [Keq];exact h2)];exact Kfr _ _ _ _ _ _ (fun he=>aS (by rw [he]))
theorem Ked.last2 {B z g:Nat} {ts:List Tk} {A:Option Addr} {cap:Nat} {W w:World} {x y:Ex} {st:St} {Ax Ay:Option Addr} {cx cy:Nat} (h:Ked B z g ts A cap W w x st Ax cx) (hy:Off (z+1) (some g) w (fun V=>Jt V y Ay cy)) (k n:Int) (nm:ByteArray) (t:TypeId) :
  Ked B z g ts A cap W ((Kel w g (.int .i64 k) (.int .i32 n) (.string nm) (.slice (some ⟨w.heap.size,0,none⟩) 2 2)).alloc (.cells #[.int .i64 x.kind,.int .i32 x.n,.string x.name,.slice Ax x.sub.length cx,.int .i64 y.kind,.int .i32 y.n,.string y.name,.slice Ay y.sub.length cy] t)) (.mk k n nm [x,y]) st (some ⟨w.heap.size,0,none⟩) 2:=by
 have eS:=h.glt;have kI:=h.zg;have hBz:=h.Bz;have hWz:=h.Wz;have hc:∀j v,w.cell? ⟨z,j,none⟩=some v->(Kel w g (.int .i64 k) (.int .i32 n) (.string nm) (.slice (some ⟨w.heap.size,0,none⟩) 2 2)).cell? ⟨z,j,none⟩=some v:=fun j v hv=>Jr (Kfr _ _ _ _ _ _ (by show z≠g;omega)) hv;have hh:=Kh3 (.int .i64 k) (.int .i32 n) (.string nm) (.slice (some ⟨w.heap.size,0,none⟩) 2 2) h.here.1 h.here.2.1 h.here.2.2.1 h.here.2.2.2
 have ix:∀P,Off (z+1) (some g) w P->Off (z+1) (some g) ((Kel w g (.int .i64 k) (.int .i32 n) (.string nm) (.slice (some ⟨w.heap.size,0,none⟩) 2 2)).alloc (.cells #[.int .i64 x.kind,.int .i32 x.n,.string x.name,.slice Ax x.sub.length cx,.int .i64 y.kind,.int .i32 y.n,.string y.name,.slice Ay y.sub.length cy] t)) P:=fun P hp=>by
  refine hp.grow (fun k _ h2 aS=>?_) (by rw [Kfq];omega) (.inl rfl);rw [(Jc (Below.refl _ _) _).block k (by rw [Keq];exact h2)];exact Kfr _ _ _ _ _ _ (fun he=>aS (by rw [he]))
 refine⟨Kga h.ps (by omega) _ _ _ _ _,Kfp h.kept (by omega) _ _ _ _ _,⟨J4 hh.1,J4 hh.2.1,J4 hh.2.2.1,J4 hh.2.2.2⟩,J4 (hc _ _ h.r0),J4 (hc _ _ h.r1),J4 (hc _ _ h.r2),J4 (hc _ _ h.r3),fun o=>?_,fun o=>?_,?_,hBz,hWz,kI,by rw [Kfq];omega⟩
 ·rw [Jf (Jc (Below.refl _ _) _) _ _ (by rw [Keq];omega),Kgq];exact h.fz o
 ·rw [Jf (Jc (Below.refl _ _) _) _ _ (by rw [Keq];omega),Kgq];exact h.fg o
 ·exact Kl1 (by omega) (by rw [Kfq];omega) (by omega) (fun j u hj=>by rw [Kgv];simpa [exC] using hj) (ix _ h.off) (ix _ hy)
theorem Km0 {base g:Nat} {w:World} {P:World->Prop} (h:Off base (some g) w P):Off base none w P:=fun w' jC=>h w' fun k h1 h2 _=>jC k h1 h2 (by simp)
theorem Ked.fin {B z g:Nat} {ts:List Tk} {A:Option Addr} {cap:Nat} {W w:World} {x:Ex} {st:St} {Ax:Option Addr} {cx:Nat} (h:Ked B z g ts A cap W w x st Ax cx) (v0 v1 v2 v3:Value) :
  Kdq B ts A cap W (x,st) (.returned (exV x Ax cx)) (Kel w z v0 v1 v2 v3):=by
 have hBz:=h.Bz;have hWz:=h.Wz;exact⟨⟨_,rfl,Ax,cx,rfl,Kgf (Km0 h.off) (by omega) (by omega) _ _ _ _⟩,Kd0 h.ps hBz _ _ _ _,Kdp h.kept (by omega) _ _ _ _⟩
theorem Kkt {B:Nat} {ts:List Tk} {A:Option Addr} {cap f:Nat} {st:St} {W:World} (ih:Kgx B ts A cap f) (h:X2 B ts A cap W st) (ai:ts.length<=100000) (hf:12 * (ts.length-st.pos)+1<f+1) :
  Calls Tryz.prog 124 #[.pointer (some ⟨B,0,none⟩)] W (Kdq B ts A cap W (K3 ts (f+1) .factor st)):=by
 have cm:=h.lt;have nn:=h.le;have aS:W.heap.size≠B:=by omega
 have aY:=fun W' (hp:X2 B ts A cap W' st)=>(ih st W' hp).2.2.2.2 (by omega);have hg:=Ke3 ts f .atom st;rw [K3];generalize K3 ts f .atom st=C at aY hg ⊢;obtain⟨x0,st0⟩:=C;have hga:=hg.1;have hgb:=hg.2 nn;obtain⟨R,hR⟩:∃R,R=K3 ts f (.floop x0) st0:=⟨_,rfl⟩;dsimp only at aY hga hgb ⊢;rw [<-hR];unfold Kdq Ke9 exV at aY;clear ih hg;have HP:=Lib.hid h;clear h;have vi:=Lib.hid hR;clear hR
 go_enter Tryz.func124,Tryz.ntmps124
 go_wp2_with (go_at_call 137;go_loud (refine(aY _ (HP.out.alloc _)).mono ?_;rintro r w1 ⟨⟨_,rfl,A1,c1,rfl,ln⟩,ii,cD⟩))
 have db:=Ked.start (t:=73) ii cm cD (by simpa using ln)
 go_loopg [] f (fun k wr=>∃x st' Ax cx,12 * (ts.length-st'.pos)<k/\K3 ts k (.floop x) st'=R/\Ked B W.heap.size w1.heap.size ts A cap W wr x st' Ax cx)
 case atStart=>exact⟨x0,st0,A1,c1,by omega,vi.out.symm,db⟩
 case round=>
  obtain⟨x,st',Ax,cx,hm,aa,dg⟩:=hrel;obtain⟨k,rfl⟩:∃k,gk=k+1:=⟨gk-1,by omega⟩;have hle':=dg.ps.le;rw [K3] at aa
  cases h1:Kc5 ts st' ⟨#[119,104,101,110]⟩
  ·rw [h1,if_neg (by simp)] at aa
   cases h2:Kc5 ts st' ⟨#[117,110,108,101,115,115]⟩
   ·rw [h2,if_neg (by simp)] at aa;have HR:=Lib.hid aa;clear aa db;have wu:=dg.ps
    go_wp2_with (first
     | (go_at_call_of 18 (Value.string ⟨#[119,104,101,110]⟩);go_loud (refine(Kdf wu h1 ai).mono ?_;rintro r w2 ⟨rfl,gL,dz⟩))
     | (go_at_call_of 18 (Value.string ⟨#[117,110,108,101,115,115]⟩);go_loud (refine(Kdf gL h2 ai).mono ?_;rintro r w3 ⟨rfl,ip,dU⟩;have ov:=dg.on (dz.trans' dU) ip;obtain⟨c0,c1,c2,c3⟩:=ov.here;have f0:=ov.fz 0;have f1:=ov.fz 1;have f2:=ov.fz 2;have f3:=ov.fz 3;have r0:=ov.r0;have r1:=ov.r1;have r2:=ov.r2;have r3:=ov.r3;have fD:=ov.glt;have kI:=ov.zg)))
    refine bodyPost_ret (v:=exV x Ax cx) (by simp [results,Tryz.results124,go_sem,exV, *]) rfl ?_;rw [<-HR.out];exact ov.fin _ _ _ _
   ·rw [h2,if_pos rfl] at aa;have am:=Ket h2;rw [Kdu h2] at aa;have aL:=fun W' (h':X2 B ts A cap W' ⟨st'.pos+1,st'.bad⟩)=>Kfd h' ai;have gn:=Kdz ts ⟨st'.pos+1,st'.bad⟩;generalize Kdn ts ⟨st'.pos+1,st'.bad⟩=N at aa aL gn;have gna:st'.pos+1<=N.2.pos:=gn.1;have gnb:=gn.2 (by simp;omega);have HR:=Lib.hid aa;clear aa db gn;have wu:=dg.ps
    go_wp2_with (first
     | (go_at_call_of 18 (Value.string ⟨#[119,104,101,110]⟩);go_loud (refine(Kdf wu h1 ai).mono ?_;rintro r w2 ⟨rfl,gL,dz⟩))
     | (go_at_call_of 18 (Value.string ⟨#[117,110,108,101,115,115]⟩);go_loud (refine(Kdr gL h2 ai).mono ?_;rintro r w3 ⟨rfl,ip,dU⟩)))
    have ov:=dg.on (dz.trans' dU) ip;have q:=ov.here;have hBz:=ov.Bz;have kI:=ov.zg;have eS:=ov.glt;have al:w1.heap.size≠B:=by omega
    refine Kd (fun V:World=>V.cell? ⟨w1.heap.size,0,none⟩=some (.int .i64 x.kind)/\V.cell? ⟨w1.heap.size,1,none⟩=some (.int .i32 x.n)/\V.cell? ⟨w1.heap.size,2,none⟩=some (.string x.name)/\V.cell? ⟨w1.heap.size,3,none⟩=some (.slice Ax x.sub.length cx)) 7 2 (by kernel_rfl) (by rfl) ?_;simp only [List.size_toArray,List.length_cons,List.length_nil,Nat.zero_add,Nat.reduceAdd];have ar:(w3).drew.cell? ⟨w1.heap.size,0,none⟩=some (.int .i64 x.kind)/\(w3).drew.cell? ⟨w1.heap.size,1,none⟩=some (.int .i32 x.n)/\(w3).drew.cell? ⟨w1.heap.size,2,none⟩=some (.string x.name)/\(w3).drew.cell? ⟨w1.heap.size,3,none⟩=some (.slice Ax x.sub.length cx):=q;refine Ji 0 ar ?_;refine Ji 1 ar ?_;refine Ji 2 ar ?_;refine Ji 3 ar ?_;refine Ji 5 ar ?_;refine Kja (i:=4) (j:=6) (by kernel_rfl) (by simp only [List.getElem?_toArray,List.getElem?_cons_succ,List.getElem?_cons_zero];rfl) (by simp only [List.getElem?_toArray,List.getElem?_cons_succ,List.getElem?_cons_zero];rfl) rfl rfl ?_ ?_
    ·refine Jj fun K hK=>?_;go_simp;refine(aL _ (ip).drew).mono ?_;rintro r w5 ⟨rfl,dv,bb⟩;dsimp only;have q5:=kc4 (W:=(w3).drew) bb al eS q;refine hK _ _ ⟨q5,?_⟩;clear hK K
     try simp only [Act.put,sa1,sa2,sa3]
     refine Kb 6 ?_;refine Jj fun K hK=>?_;go_simp;refine hK _ _ ⟨ea4 _ q5,?_⟩;clear hK K
     try simp only [Act.put,sa1,sa2,sa3]
     have eK:=ov.drew.on bb dv;have c0:=eK.here.1;have c1:=eK.here.2.1;have c2:=eK.here.2.2.1;have c3:=eK.here.2.2.2;have f0:=eK.fg 0;have f1:=eK.fg 1;have f2:=eK.fg 2;have f3:=eK.fg 3;have hl5:=eK.glt;clear q q5 ar;refine Kh (by kernel_rfl) ?_;refine Qx 7 ?_;refine Jj fun K hK=>?_;go_simp;refine hK _ _ ?_;clear hK K
     try simp only [Act.put,sa1,sa2,sa3]
     refine Qx 8 ?_;refine Jj fun K hK=>?_;go_simp;refine hK _ _ ?_;clear hK K
     try simp only [Act.put,sa1,sa2,sa3]
     refine Ki (by kernel_rfl) ?_
     go_wp2_with fail
     go_roundg k
     case measure=>omega
     case rel=>exact⟨_,_,_,_,by omega,HR.out,eK.last1 9 N.1 73⟩
    ·refine Jj fun K hK=>?_;go_simp;refine hK _ _ ⟨ea4 _ q,?_⟩;clear hK K
     try simp only [Act.put,sa1,sa2,sa3]
     have hf4:=ov.drew.alloc (.cells #[.int .i64 x.kind,.int .i32 x.n,.string x.name,.slice Ax x.sub.length cx] 73);have hn4:(w3).heap.size≠B:=by omega
     refine Kb 4 ?_;refine Jj fun K hK=>?_;go_simp;refine(aL _ hf4.ps).mono ?_;rintro r w5 ⟨rfl,dv,bb⟩;dsimp only;refine hK _ _ ⟨kc4 bb al hf4.glt hf4.here,?_⟩;clear hK K
     try simp only [Act.put,sa1,sa2,sa3]
     have eK:=hf4.on bb dv;have q4:=kc4 bb hn4 (by simp) (Kiw ((w3).drew) x Ax cx 73);have c0:=eK.here.1;have c1:=eK.here.2.1;have c2:=eK.here.2.2.1;have c3:=eK.here.2.2.2;have f0:=eK.fg 0;have f1:=eK.fg 1;have f2:=eK.fg 2;have f3:=eK.fg 3;have hl5:=eK.glt;have yx:=bb.size;replace yx:(w3).heap.size+1<=w5.heap.size:=by simpa using yx
     have Q4:=Lib.hid q4;clear q q4 ar;refine Kh (by kernel_rfl) ?_;refine Qx 7 ?_;refine Jj fun K hK=>?_;go_simp;refine hK _ _ ?_;clear hK K
     try simp only [Act.put,sa1,sa2,sa3]
     refine Qx 8 ?_;refine Jj fun K hK=>?_;go_simp;refine hK _ _ ?_;clear hK K
     try simp only [Act.put,sa1,sa2,sa3]
     refine Ki (by kernel_rfl) ?_
     go_wp2_with fail
     go_roundg k
     case measure=>omega
     case rel=>
      refine⟨_,_,_,_,by omega,HR.out,eK.put (y:= .mk 9 0 N.1 [x]) (Kh0 (c:=(w3).heap.size) (by omega) (by omega) (by omega) (fun j u hj=>?_) eK.off)⟩
      match j,hj with
      | 0,hj=>simp [exC] at hj;subst hj;exact Q4.out.1
      | 1,hj=>simp [exC] at hj;subst hj;exact Q4.out.2.1
      | 2,hj=>simp [exC] at hj;subst hj;exact Q4.out.2.2.1
      | 3,hj=>simp [exC] at hj;subst hj;exact Q4.out.2.2.2
  ·rw [h1,if_pos rfl] at aa;have am:=Ket h1;rw [Kdu h1] at aa;have aL:=fun W' (h':X2 B ts A cap W' ⟨st'.pos+1,st'.bad⟩)=>Kfd h' ai;have gn:=Kdz ts ⟨st'.pos+1,st'.bad⟩;generalize Kdn ts ⟨st'.pos+1,st'.bad⟩=N at aa aL gn;have gna:st'.pos+1<=N.2.pos:=gn.1;have gnb:=gn.2 (by simp;omega);have HR:=Lib.hid aa;clear aa db gn;have wu:=dg.ps
   go_wp2_with (go_at_call_of 18 (Value.string ⟨#[119,104,101,110]⟩);go_loud (refine(Kdr wu h1 ai).mono ?_;rintro r w2 ⟨rfl,gL,dz⟩))
   have ov:=dg.on dz gL;have q:=ov.here;have hBz:=ov.Bz;have kI:=ov.zg;have eS:=ov.glt;have al:w1.heap.size≠B:=by omega
   refine Kd (fun V:World=>V.cell? ⟨w1.heap.size,0,none⟩=some (.int .i64 x.kind)/\V.cell? ⟨w1.heap.size,1,none⟩=some (.int .i32 x.n)/\V.cell? ⟨w1.heap.size,2,none⟩=some (.string x.name)/\V.cell? ⟨w1.heap.size,3,none⟩=some (.slice Ax x.sub.length cx)) 7 2 (by kernel_rfl) (by rfl) ?_;simp only [List.size_toArray,List.length_cons,List.length_nil,Nat.zero_add,Nat.reduceAdd];have ar:(w2).drew.cell? ⟨w1.heap.size,0,none⟩=some (.int .i64 x.kind)/\(w2).drew.cell? ⟨w1.heap.size,1,none⟩=some (.int .i32 x.n)/\(w2).drew.cell? ⟨w1.heap.size,2,none⟩=some (.string x.name)/\(w2).drew.cell? ⟨w1.heap.size,3,none⟩=some (.slice Ax x.sub.length cx):=q;refine Ji 0 ar ?_;refine Ji 1 ar ?_;refine Ji 2 ar ?_;refine Ji 3 ar ?_;refine Ji 5 ar ?_;refine Kja (i:=4) (j:=6) (by kernel_rfl) (by simp only [List.getElem?_toArray,List.getElem?_cons_succ,List.getElem?_cons_zero];rfl) (by simp only [List.getElem?_toArray,List.getElem?_cons_succ,List.getElem?_cons_zero];rfl) rfl rfl ?_ ?_
   ·refine Jj fun K hK=>?_;go_simp;refine(aL _ (gL).drew).mono ?_;rintro r w5 ⟨rfl,dv,bb⟩;dsimp only;have q5:=kc4 (W:=(w2).drew) bb al eS q;refine hK _ _ ⟨q5,?_⟩;clear hK K
    try simp only [Act.put,sa1,sa2,sa3]
    refine Kb 6 ?_;refine Jj fun K hK=>?_;go_simp;refine hK _ _ ⟨ea4 _ q5,?_⟩;clear hK K
    try simp only [Act.put,sa1,sa2,sa3]
    have eK:=ov.drew.on bb dv;have c0:=eK.here.1;have c1:=eK.here.2.1;have c2:=eK.here.2.2.1;have c3:=eK.here.2.2.2;have f0:=eK.fg 0;have f1:=eK.fg 1;have f2:=eK.fg 2;have f3:=eK.fg 3;have hl5:=eK.glt;clear q q5 ar;refine Kh (by kernel_rfl) ?_;refine Qx 7 ?_;refine Jj fun K hK=>?_;go_simp;refine hK _ _ ?_;clear hK K
    try simp only [Act.put,sa1,sa2,sa3]
    refine Qx 8 ?_;refine Jj fun K hK=>?_;go_simp;refine hK _ _ ?_;clear hK K
    try simp only [Act.put,sa1,sa2,sa3]
    refine Ki (by kernel_rfl) ?_
    go_wp2_with fail
    go_roundg k
    case measure=>omega
    case rel=>exact⟨_,_,_,_,by omega,HR.out,eK.last1 8 N.1 73⟩
   ·refine Jj fun K hK=>?_;go_simp;refine hK _ _ ⟨ea4 _ q,?_⟩;clear hK K
    try simp only [Act.put,sa1,sa2,sa3]
    have hf4:=ov.drew.alloc (.cells #[.int .i64 x.kind,.int .i32 x.n,.string x.name,.slice Ax x.sub.length cx] 73);have hn4:(w2).heap.size≠B:=by omega
    refine Kb 4 ?_;refine Jj fun K hK=>?_;go_simp;refine(aL _ hf4.ps).mono ?_;rintro r w5 ⟨rfl,dv,bb⟩;dsimp only;refine hK _ _ ⟨kc4 bb al hf4.glt hf4.here,?_⟩;clear hK K
    try simp only [Act.put,sa1,sa2,sa3]
    have eK:=hf4.on bb dv;have q4:=kc4 bb hn4 (by simp) (Kiw ((w2).drew) x Ax cx 73);have c0:=eK.here.1;have c1:=eK.here.2.1;have c2:=eK.here.2.2.1;have c3:=eK.here.2.2.2;have f0:=eK.fg 0;have f1:=eK.fg 1;have f2:=eK.fg 2;have f3:=eK.fg 3;have hl5:=eK.glt;have yx:=bb.size;replace yx:(w2).heap.size+1<=w5.heap.size:=by simpa using yx
    have Q4:=Lib.hid q4;clear q q4 ar;refine Kh (by kernel_rfl) ?_;refine Qx 7 ?_;refine Jj fun K hK=>?_;go_simp;refine hK _ _ ?_;clear hK K
    try simp only [Act.put,sa1,sa2,sa3]
    refine Qx 8 ?_;refine Jj fun K hK=>?_;go_simp;refine hK _ _ ?_;clear hK K
    try simp only [Act.put,sa1,sa2,sa3]
    refine Ki (by kernel_rfl) ?_
    go_wp2_with fail
    go_roundg k
    case measure=>omega
    case rel=>
     refine⟨_,_,_,_,by omega,HR.out,eK.put (y:= .mk 8 0 N.1 [x]) (Kh0 (c:=(w2).heap.size) (by omega) (by omega) (by omega) (fun j u hj=>?_) eK.off)⟩
     match j,hj with
     | 0,hj=>simp [exC] at hj;subst hj;exact Q4.out.1
     | 1,hj=>simp [exC] at hj;subst hj;exact Q4.out.2.1
     | 2,hj=>simp [exC] at hj;subst hj;exact Q4.out.2.2.1
     | 3,hj=>simp [exC] at hj;subst hj;exact Q4.out.2.2.2
end Go.Proofs.YtdgjplldlfeolaaGreatDoor
