/- Lemmas. -/
import Derived.Test.YtdgjplldlfeolaaGreatDoorMac
import Derived.Test.YtdgjplldlfeolaaGreatDoorY12
import Derived.Test.YtdgjplldlfeolaaGreatDoorY01
import Derived.Laws.OwnMore
set_option linter.unusedVariables false
set_option linter.unusedSimpArgs false
set_option maxRecDepth 100000
set_option maxHeartbeats 64000000
namespace Go.Proofs.YtdgjplldlfeolaaGreatDoor
open Go.RowKit Go.Sort
theorem Knq {B:Nat} {ts:List Tk} {A:Option Addr} {cap f:Nat} {st:St} {W:World} (hx:Kis B ts A cap f 43 .expr st) (h:X2 B ts A cap W st) (ai:ts.length<=100000) (h0:((Kc7 ts st).getD tkZ).kind≠2) (h1:Kc5 ts st ⟨#[116,114,117,101]⟩=false) (h2:Kc5 ts st ⟨#[102,97,108,115,101]⟩=false)
  (h3:Kc5 ts st ⟨#[40]⟩=false) (h4:Kc5 ts st ⟨#[105,102]⟩=true) (C:Ex×St) (hC:C=K3 ts f .expr (Kc6 ts st ⟨#[105,102]⟩)) (a b:Ex×St) (ha:a=K3 ts f .expr (Kda ts C.2 ⟨#[116,104,101,110]⟩)) (hb:b=K3 ts f .expr (Kda ts a.2 ⟨#[101,108,115,101]⟩)) :
  Calls Tryz.prog 137 #[.pointer (some ⟨B,0,none⟩)] W (Kdq B ts A cap W (.mk 6 0 ⟨#[]⟩ [C.1,a.1,b.1],b.2)):=by
 have am:=(Ket h4).1;rw [Kdu h4] at hC;have g0:=Ke3 ts f .expr ⟨st.pos+1,st.bad⟩;have hx0:=fun W' h=>hx ⟨st.pos+1,st.bad⟩ W' h Uh Ui;rw [<-hC] at hx0 g0;have g0a:st.pos+1<=C.2.pos:=g0.1;have g0b:=g0.2 Ui;have g1:=Kdc ts C.2 ⟨#[116,104,101,110]⟩;have eR:=fun W' (h':X2 B ts A cap W' C.2)=>Koc h' ⟨#[116,104,101,110]⟩ ai;generalize Kda ts C.2 ⟨#[116,104,101,110]⟩=s1 at ha g1 eR;have g1a:=g1.1;have g1b:=g1.2 g0b;have g2:=Ke3 ts f .expr s1;have vK:=fun W' h=>hx s1 W' h Ua g1b;rw [<-ha] at vK g2;have g2a:=g2.1;have g2b:=g2.2 g1b;have g3:=Kdc ts a.2 ⟨#[101,108,115,101]⟩;have eu:=fun W' (h':X2 B ts A cap W' a.2)=>Koc h' ⟨#[101,108,115,101]⟩ ai;generalize Kda ts a.2 ⟨#[101,108,115,101]⟩=s2 at hb g3 eu;have g3a:=g3.1;have g3b:=g3.2 g2b;have qh:=fun W' h=>hx s2 W' h Ua g3b;rw [<-hb] at qh;unfold Kdq Ke9 exV at hx0 vK qh;have cm:=h.lt;have nn:=h.le;have aS:W.heap.size≠B:=Ua;have qU:=fun W' hb=>Kej (W:=W') (h.later hb);generalize (Kc7 ts st).getD tkZ=t at qU h0;generalize (Kc7 ts st).isSome=o at qU;obtain⟨tk,tx,tn,tp⟩:=t;unfold tkV at qU;dsimp only at qU h0;have t2:(tk == 2)=false:=Lv;have HP:=Nf h;clear h h0;clear hx hC ha hb g0 g1 g2 g3 g0a g0b g1a g1b g2a g2b g3a g3b;obtain⟨x,st2⟩:=C;obtain⟨y,st3⟩:=a;obtain⟨z,st4⟩:=b;dsimp only at hx0 vK qh eR eu ⊢
 go_enter Tryz.func137,Tryz.ntmps137
 go_wp2_with (first
  | (go_at_call 85;go_loud (refine(qU _ Jb).mono ?_;rintro r w1 ⟨rfl,ac⟩;have ii:=(HP.out.later (show Below W.heap.size W w1 from Jb)).alloc (.cells #[.int .i64 tk,.string tx,.int .i32 tn,.int .i64 tp] 103);have wd:=(J6.bel (S:=fun b=>b=B) ac).alloc (.cells #[.int .i64 tk,.string tx,.int .i32 tn,.int .i64 tp] 103)))
  | (go_at_call_of 18 (Value.string ⟨#[116,114,117,101]⟩);go_loud (refine(Kdf ii h1 ai).mono ?_;rintro r w2 ⟨rfl,gL,hk⟩;have zH:=wd.trans' hk;clear hk))
  | (go_at_call_of 18 (Value.string ⟨#[102,97,108,115,101]⟩);go_loud (refine(Kdf gL h2 ai).mono ?_;rintro r w3 ⟨rfl,ip,hk⟩;have hK3:=zH.trans' hk;clear hk))
  | (go_at_call_of 18 (Value.string ⟨#[40]⟩);go_loud (refine(Kdf ip h3 ai).mono ?_;rintro r w4 ⟨rfl,bT,hk⟩;have hK4:=hK3.trans' hk;clear hk))
  | (go_at_call_of 18 (Value.string ⟨#[105,102]⟩);go_loud (refine(Kdr bT h4 ai).mono ?_;rintro r w5 ⟨rfl,dv,hk⟩;have hK5:=hK4.trans' hk;clear hk;have hz:=hK5.size;(try simp at hz)))
  | (go_at_call_of 37 (Value.string ⟨#[101,108,115,101]⟩);go_loud (refine(eu _ (hp8.alloc _)).mono ?_;rintro r w9 ⟨rfl,hp9,hk9⟩;have hz9:=hk9.size;(try simp at hz9)))
  | (go_at_call_of 37 (Value.string ⟨#[116,104,101,110]⟩);go_loud (refine(eR _ (tj.alloc _)).mono ?_;rintro r w7 ⟨rfl,hp7,hk7⟩;have hz7:=hk7.size;(try simp at hz7)))
  | (go_at_call 43;go_loud (refine(vK _ hp7).mono ?_;rintro r w8 ⟨⟨_,rfl,A8,c8,rfl,ho8⟩,hp8,hk8⟩;have hz8:=hk8.size))
  | (go_at_call 43;go_loud (refine(hx0 _ dv).mono ?_;rintro r w6 ⟨⟨_,rfl,A6,c6,rfl,ho6⟩,tj,cu⟩;have hz6:=cu.size)))
 have hn6:w6.heap.size≠B:=Ua;have hn8:w8.heap.size≠B:=Ua;have k67:J6 (fun b=>b=B) (w6.alloc (.cells #[.int .i64 x.kind,.int .i32 x.n,.string x.name,.slice A6 x.sub.length c6] 73)) w9:=hk7.trans' (hk8.trans' (K2 hk9));have q6:=kc4 k67 hn6 Uh (Kiw w6 x A6 c6 73);have q8:=kc4 hk9 hn8 Uh (Kiw w8 y A8 c8 73);refine Kd (fun V:World=>(V.cell? ⟨w6.heap.size,0,none⟩=some (.int .i64 x.kind)/\V.cell? ⟨w6.heap.size,1,none⟩=some (.int .i32 x.n)/\V.cell? ⟨w6.heap.size,2,none⟩=some (.string x.name)/\V.cell? ⟨w6.heap.size,3,none⟩=some (.slice A6 x.sub.length c6))/\(V.cell? ⟨w8.heap.size,0,none⟩=some (.int .i64 y.kind)/\V.cell? ⟨w8.heap.size,1,none⟩=some (.int .i32 y.n)/\V.cell? ⟨w8.heap.size,2,none⟩=some (.string y.name)/\V.cell? ⟨w8.heap.size,3,none⟩=some (.slice A8 y.sub.length c8))) 4 3 Ue Gp ?_;simp only [List.size_toArray,Nl,Nm,Nat.zero_add,Nat.reduceAdd];have ar:(w9.drew.cell? ⟨w6.heap.size,0,none⟩=some (.int .i64 x.kind)/\w9.drew.cell? ⟨w6.heap.size,1,none⟩=some (.int .i32 x.n)/\w9.drew.cell? ⟨w6.heap.size,2,none⟩=some (.string x.name)/\w9.drew.cell? ⟨w6.heap.size,3,none⟩=some (.slice A6 x.sub.length c6))/\(w9.drew.cell? ⟨w8.heap.size,0,none⟩=some (.int .i64 y.kind)/\w9.drew.cell? ⟨w8.heap.size,1,none⟩=some (.int .i32 y.n)/\w9.drew.cell? ⟨w8.heap.size,2,none⟩=some (.string y.name)/\w9.drew.cell? ⟨w8.heap.size,3,none⟩=some (.slice A8 y.sub.length c8)):=⟨q6,q8⟩;refine Ji 0 ar ?_;refine Ji 1 ar ?_;refine Ji 2 ar ?_;have lH:w6.heap.size<w9.drew.heap.size:=by show w6.heap.size<w9.heap.size;omega
 have hy8:w8.heap.size<w9.drew.heap.size:=by show w8.heap.size<w9.heap.size;omega
 refine Kb 3 ?_;refine Jj fun K hK=>?_;go_simp;refine(qh _ hp9.drew).mono ?_;rintro r wz ⟨⟨_,rfl,Az,cz,rfl,hoz⟩,hpz,hkz⟩;dsimp only;refine hK _ _ ⟨⟨kc4 hkz hn6 lH q6,kc4 hkz hn8 hy8 q8⟩,?_⟩;clear hK K
 try simp only [Act.put,sa1,sa2,sa3]
 have eI:w9.heap.size<=wz.heap.size:=hkz.size;have hk:=hK5.trans' (cu.trans' ((K2 k67).trans' ((J6.refl w9).drew.trans' hkz)));have aW:=K1 hk;have bS:=kfz hk;have dG:=lt0 W wz;have ho6':Off (W.heap.size+1) none wz (fun V=>Jt V x A6 c6):=(ho6.kept Ua ((K2 k67).trans' ((J6.refl w9).drew.trans' hkz))).less Ua;have ho8':Off (W.heap.size+1) none wz (fun V=>Jt V y A8 c8):=(ho8.kept Ua ((K2 hk9).trans' ((J6.refl w9).drew.trans' hkz))).less Ua;have hoz':Off (W.heap.size+1) none wz (fun V=>Jt V z Az cz):=hoz.less (by show W.heap.size+1<=w9.heap.size;omega);clear q6 q8 ar cu hk7 hk8 hk9 hkz ho6 ho8 hoz wd hK5 k67;refine Kh Ue ?_;refine Qx 4 ?_;refine Jj fun K hK=>?_;go_simp;refine hK _ _ ?_;clear hK K
 try simp only [Act.put,sa1,sa2,sa3]
 refine Qx 5 ?_;refine Jj fun K hK=>?_;go_simp;refine hK _ _ ?_;clear hK K
 try simp only [Act.put,sa1,sa2,sa3]
 refine Qx 6 ?_;refine Jj fun K hK=>?_;go_simp;refine hK _ _ ?_;clear hK K
 try simp only [Act.put,sa1,sa2,sa3]
 refine Ki Ue ?_
 go_wp2_with fail
 refine Nv (v:=exV (.mk 6 0 ⟨#[]⟩ [x,y,z]) (some ⟨wz.heap.size,0,none⟩) 3) U8 rfl ?_;exact⟨⟨_,rfl,_,_,rfl,Kn9 ho6' ho8' hoz' Ua Ua Ua Ua Ua Ua Ua⟩,Kga hpz cm _ _ _ _ _,Kfp (K2 hk) (Ns _) _ _ _ _ _⟩
theorem Kmj {B:Nat} {ts:List Tk} {A:Option Addr} {cap f:Nat} {st:St} {W:World} (ih:Kgx B ts A cap f) (h:X2 B ts A cap W st) (ai:ts.length<=100000) (hf:12 * (ts.length-st.pos)<f+1) :
  Calls Tryz.prog 137 #[.pointer (some ⟨B,0,none⟩)] W (Kdq B ts A cap W (K3 ts (f+1) .atom st)):=by
 have hx:Kis B ts A cap f 43 .expr st:=fun st' W' hp h1 h2=>(ih st' W' hp).1 Ua;have eB:Kis B ts A cap f 124 .factor st:=fun st' W' hp h1 h2=>(ih st' W' hp).2.2.2.1 Ua;rw [K3]
 split
 ·rename_i h0;exact Km1 h ai h0
 ·rename_i h0
  split
  ·rename_i h1;exact Kmh h ai h0 h1
  ·rename_i h1;replace h1:=Bool.not_eq_true _ ▸ h1
   split
   ·rename_i h2;exact Klg h ai h0 h1 h2
   ·rename_i h2;replace h2:=Bool.not_eq_true _ ▸ h2
    split
    ·rename_i h3;exact Klb hx h ai h0 h1 h2 h3
    ·rename_i h3;replace h3:=Bool.not_eq_true _ ▸ h3
     split
     ·rename_i h4;exact Knq hx h ai h0 h1 h2 h3 h4 _ rfl _ _ rfl rfl
     ·rename_i h4;replace h4:=Bool.not_eq_true _ ▸ h4
      split
      ·rename_i h5;exact Kk2 eB h ai h0 h1 h2 h3 h4 h5 _ rfl _ _ rfl rfl
      ·rename_i h5;exact Kms h ai h0 h1 h2 h3 h4 (Bool.not_eq_true _ ▸ h5)
section
variable {P:Program} {ops:Array Oper} {Q:Exit->Act->World->Prop} {md:Region.Mode} {S:World->Prop}
theorem Kja {n g i j:Nat} {oi oj:Oper} {f:Nat} {listed:Array Bool} {a:Act} {w:World} (hr:Region.ready md ops listed = [i,j]) (hi:ops[i]?=some oi) (hj:ops[j]?=some oj) (hg:oi.guard=none) (hgj:oj.guard=none)
  (h:oi.wp P a w (fun a' w'=>S w'/\Jab P md ops Q S n g f (listed.setIfInBounds i true) a' w') Q) (h2:oj.wp P a w (fun a' w'=>S w'/\Jab P md ops Q S n g f (listed.setIfInBounds j true) a' w') Q):Jab P md ops Q S n g (f+1) listed a w:=by
 refine⟨fun h0=>G4,fun k hk=>?_⟩;rw [hr] at hk;simp only [List.mem_cons,List.not_mem_nil,or_false] at hk
 rcases hk with rfl|rfl
 ·exact Ubf
 ·exact Uau
end
structure Ked (B z g:Nat) (ts:List Tk) (A:Option Addr) (cap:Nat) (W w:World) (x:Ex) (st:St) (Ax:Option Addr) (cx:Nat):Prop where
 ps:X2 B ts A cap w st
 kept:J6 (fun b=>b=B) W w
 here:w.cell? ⟨g,0,none⟩=some (.int .i64 x.kind)/\w.cell? ⟨g,1,none⟩=some (.int .i32 x.n)/\w.cell? ⟨g,2,none⟩=some (.string x.name)/\w.cell? ⟨g,3,none⟩=some (.slice Ax x.sub.length cx)
 r0:w.cell? ⟨z,0,none⟩=some (.int .i64 0)
 r1:w.cell? ⟨z,1,none⟩=some (.int .i32 0)
 r2:w.cell? ⟨z,2,none⟩=some (.string ⟨#[]⟩)
 r3:w.cell? ⟨z,3,none⟩=some (.slice none 0 0)
 fz:∀o,w.frozen? ⟨z,o,none⟩=false
 fg:∀o,w.frozen? ⟨g,o,none⟩=false
 off:Off (z+1) (some g) w (fun V=>Jt V x Ax cx)
 Bz:B<z
 Wz:W.heap.size=z
 zg:z<g
 glt:g<w.heap.size
theorem Ked.on {B z g:Nat} {ts:List Tk} {A:Option Addr} {cap:Nat} {W w w':World} {x:Ex} {st st':St} {Ax:Option Addr} {cx:Nat} (h:Ked B z g ts A cap W w x st Ax cx) (hk:J6 (fun b=>b=B) w w') (hp:X2 B ts A cap w' st'):Ked B z g ts A cap W w' x st' Ax cx:=by
 have hBz:=h.Bz;have kI:=h.zg;have eS:=h.glt;have nz:z≠B:=Ua;have ng:g≠B:=Ua
 exact⟨hp,h.kept.trans' hk,kc4 hk ng eS h.here,(K1 hk _ _ nz Ua).trans h.r0,(K1 hk _ _ nz Ua).trans h.r1,(K1 hk _ _ nz Ua).trans h.r2,(K1 hk _ _ nz Ua).trans h.r3,
  fun o=>(kfz hk _ _ nz Ua).trans (h.fz o),fun o=>(kfz hk _ _ ng eS).trans (h.fg o),h.off.grow (fun k h1 h2 _=>hk.block k h2 (by show ¬k=B;omega)) hk.size (.inl rfl),hBz,h.Wz,kI,Nr eS hk.size⟩
theorem Ked.start {B:Nat} {ts:List Tk} {A:Option Addr} {cap:Nat} {W w:World} {x:Ex} {st:St} {Ax:Option Addr} {cx:Nat} {tz t:TypeId} (hp:X2 B ts A cap w st) (hB:B<W.heap.size)
  (hk:J6 (fun b=>b=B) (W.alloc (.cells #[.int .i64 0,.int .i32 0,.string ⟨#[]⟩,.slice none 0 0] tz)) w) (ho:Off (W.heap.size+1) none w (fun V=>Jt V x Ax cx)) :
  Ked B W.heap.size w.heap.size ts A cap W (w.alloc (.cells #[.int .i64 x.kind,.int .i32 x.n,.string x.name,.slice Ax x.sub.length cx] t)) x st Ax cx:=by
 have hz:=hk.size;replace hz:W.heap.size+1<=w.heap.size:=Mb;have hc:∀j v,(W.alloc (.cells #[.int .i64 0,.int .i32 0,.string ⟨#[]⟩,.slice none 0 0] tz)).cell? ⟨W.heap.size,j,none⟩=some v->(w.alloc (.cells #[.int .i64 x.kind,.int .i32 x.n,.string x.name,.slice Ax x.sub.length cx] t)).cell? ⟨W.heap.size,j,none⟩=some v:=fun j v hv=>J4 ((K1 hk _ _ Ua Uh).trans hv);refine⟨hp.alloc _,(K2 hk).alloc _,Kiw _ _ _ _ _,hc _ _ Gd,hc _ _ Gd,hc _ _ Gd,hc _ _ Gd,fun o=>?_,fun o=>?_,?_,hB,rfl,Ua,Uh⟩
 ·rw [Jf (Jc (Nt) _) _ _ Ua,kfz hk _ _ Ua Uh];exact Uc
 ·exact Uc
 ·exact ho.grow (fun k _ h2 _=>(Jc (Below.refl w.heap.size w) _).block k h2) Uh (.inr fun k hk=>Db)
theorem Kh3 {W:World} {c:Nat} {u0 u1 u2 u3:Value} (v0 v1 v2 v3:Value) (h0:W.cell? ⟨c,0,none⟩=some u0) (h1:W.cell? ⟨c,1,none⟩=some u1) (h2:W.cell? ⟨c,2,none⟩=some u2) (h3:W.cell? ⟨c,3,none⟩=some u3) :
  (Kel W c v0 v1 v2 v3).cell? ⟨c,0,none⟩=some v0/\(Kel W c v0 v1 v2 v3).cell? ⟨c,1,none⟩=some v1/\(Kel W c v0 v1 v2 v3).cell? ⟨c,2,none⟩=some v2/\(Kel W c v0 v1 v2 v3).cell? ⟨c,3,none⟩=some v3:=by
 unfold Kel;refine⟨?_,?_,?_,?_⟩
 ·rw [J5 _ _ _ _ _ Ug,J5 _ _ _ _ _ Ug,J5 _ _ _ _ _ Ug];exact Nx _ _ _ h0
 ·rw [J5 _ _ _ _ _ Ug,J5 _ _ _ _ _ Ug];exact Nx _ _ _ Ucx
 ·rw [J5 _ _ _ _ _ Ug];exact Nx _ _ _ Ucg
 ·exact Nx _ _ _ Uci
theorem Kgq (W:World) (c:Nat) (v0 v1 v2 v3:Value) (p:Addr):(Kel W c v0 v1 v2 v3).frozen? p=W.frozen? p:=by unfold Kel;rw [World.frozen?_setCell,World.frozen?_setCell,World.frozen?_setCell,World.frozen?_setCell]
theorem Ked.put {B z g:Nat} {ts:List Tk} {A:Option Addr} {cap:Nat} {W w:World} {x y:Ex} {st:St} {Ax Ay:Option Addr} {cx cy:Nat} (h:Ked B z g ts A cap W w x st Ax cx) (hy:Off (z+1) (some g) w (fun V=>Jt V y Ay cy)) :
  Ked B z g ts A cap W (Kel w g (.int .i64 y.kind) (.int .i32 y.n) (.string y.name) (.slice Ay y.sub.length cy)) y st Ay cy:=by
 have kI:=h.zg;have hBz:=h.Bz;have hWz:=h.Wz;have hc:∀j v,w.cell? ⟨z,j,none⟩=some v->(Kel w g (.int .i64 y.kind) (.int .i32 y.n) (.string y.name) (.slice Ay y.sub.length cy)).cell? ⟨z,j,none⟩=some v:=fun j v hv=>Jr (Kfr _ _ _ _ _ _ (by show z≠g;omega)) hv;refine⟨Kd0 h.ps Ua _ _ _ _,Kdp h.kept Ua _ _ _ _,Kh3 _ _ _ _ h.here.1 h.here.2.1 h.here.2.2.1 h.here.2.2.2,hc _ _ h.r0,hc _ _ h.r1,hc _ _ h.r2,hc _ _ h.r3,fun o=>(Kgq ..).trans (h.fz o),fun o=>(Kgq ..).trans (h.fg o),?_,hBz,hWz,kI,by rw [Keq];exact h.glt⟩;exact hy.grow (fun k _ _ aS=>Kfr _ _ _ _ _ _ (fun he=>aS (by rw [he]))) (by rw [Keq];exact Ns _) (.inl rfl)
theorem Ked.alloc {B z g:Nat} {ts:List Tk} {A:Option Addr} {cap:Nat} {W w:World} {x:Ex} {st:St} {Ax:Option Addr} {cx:Nat} (h:Ked B z g ts A cap W w x st Ax cx) (o:Obj):Ked B z g ts A cap W (w.alloc o) x st Ax cx:=h.on ((J6.refl w).alloc o) (h.ps.alloc o)
theorem Ked.drew {B z g:Nat} {ts:List Tk} {A:Option Addr} {cap:Nat} {W w:World} {x:Ex} {st:St} {Ax:Option Addr} {cx:Nat} (h:Ked B z g ts A cap W w x st Ax cx):Ked B z g ts A cap W w.drew x st Ax cx:=h.on (J6.refl w).drew h.ps.drew
theorem Kj7 {base g c:Nat} {W:World} {k n:Int} {nm:ByteArray} {l:List Ex} {ls:List (Option Addr×Nat)} (ss:base<=c) (am:c<W.heap.size) (aS:c≠g) (hl:ls.length=l.length) (hn:l.length<=100)
  (hc:∀j u,(Ya l ls)[j]?=some u->W.cell? ⟨c,j,none⟩=some u) (hs:∀(j:Nat) (y:Ex) (a:Option Addr×Nat),l[j]?=some y->ls[j]?=some a->Off base (some g) W (fun V=>Jt V y a.1 a.2)) :
  Off base (some g) W (fun V=>Jt V (.mk k n nm l) (some ⟨c,0,none⟩) l.length):=fun w' jC=>by
 show Jt w' _ _ _;rw [Jao];refine⟨Ns _,Uo,fun _=>⟨c,0,rfl,Xv.of_cells _ ls 0 hl (fun j u hj=>?_) fun j y a hy ha=>hs j y a hy ha w' jC⟩⟩;rw [Nat.zero_add];exact Jr (jC c ss am (by intro he;injection he with he;exact aS he)) (hc j u hj)
theorem Kh0 {base g c:Nat} {W:World} {k n:Int} {nm:ByteArray} {x:Ex} {a:Option Addr} {ca:Nat} (ss:base<=c) (am:c<W.heap.size) (aS:c≠g) (hc:∀j u,(exC x (a,ca))[j]?=some u->W.cell? ⟨c,j,none⟩=some u)
  (h:Off base (some g) W (fun V=>Jt V x a ca)):Off base (some g) W (fun V=>Jt V (.mk k n nm [x]) (some ⟨c,0,none⟩) 1):=
 Kj7 (l:=[x]) (ls:=[(a,ca)]) ss am aS rfl Uh (fun j u hj=>hc j u Du) fun j y b hy hb=>by
  match j,hy,hb with
  | 0,hy,hb=>simp at hy hb;subst hy hb;exact h
theorem Kl1 {base g c:Nat} {W:World} {k n:Int} {nm:ByteArray} {x y:Ex} {a b:Option Addr} {ca cb:Nat} (ss:base<=c) (am:c<W.heap.size) (aS:c≠g) (hc:∀j u,(exC x (a,ca) ++ exC y (b,cb))[j]?=some u->W.cell? ⟨c,j,none⟩=some u)
  (h:Off base (some g) W (fun V=>Jt V x a ca)) (h':Off base (some g) W (fun V=>Jt V y b cb)):Off base (some g) W (fun V=>Jt V (.mk k n nm [x,y]) (some ⟨c,0,none⟩) 2):=
 Kj7 (l:=[x,y]) (ls:=[(a,ca),(b,cb)]) ss am aS rfl Uh (fun j u hj=>hc j u Du) fun j q e hq he=>by
  match j,hq,he with
  | 0,hq,he=>simp at hq he;subst hq he;exact h
  | 1,hq,he=>simp at hq he;subst hq he;exact h'
theorem Ked.last1 {B z g:Nat} {ts:List Tk} {A:Option Addr} {cap:Nat} {W w:World} {x:Ex} {st:St} {Ax:Option Addr} {cx:Nat} (h:Ked B z g ts A cap W w x st Ax cx) (k:Int) (nm:ByteArray) (t:TypeId) :
  Ked B z g ts A cap W ((Kel w g (.int .i64 k) (.int .i32 0) (.string nm) (.slice (some ⟨w.heap.size,0,none⟩) 1 1)).alloc (.cells #[.int .i64 x.kind,.int .i32 x.n,.string x.name,.slice Ax x.sub.length cx] t)) (.mk k 0 nm [x]) st (some ⟨w.heap.size,0,none⟩) 1:=by
 have eS:=h.glt;have kI:=h.zg;have hBz:=h.Bz;have hWz:=h.Wz;have hc:∀j v,w.cell? ⟨z,j,none⟩=some v->(Kel w g (.int .i64 k) (.int .i32 0) (.string nm) (.slice (some ⟨w.heap.size,0,none⟩) 1 1)).cell? ⟨z,j,none⟩=some v:=fun j v hv=>Jr (Kfr _ _ _ _ _ _ (by show z≠g;omega)) hv;have hh:=Kh3 (.int .i64 k) (.int .i32 0) (.string nm) (.slice (some ⟨w.heap.size,0,none⟩) 1 1) h.here.1 h.here.2.1 h.here.2.2.1 h.here.2.2.2;refine⟨Kga h.ps Ua _ _ _ _ _,Kfp h.kept Ua _ _ _ _ _,⟨J4 hh.1,J4 hh.2.1,J4 hh.2.2.1,J4 hh.2.2.2⟩,J4 (hc _ _ h.r0),J4 (hc _ _ h.r1),J4 (hc _ _ h.r2),J4 (hc _ _ h.r3),fun o=>?_,fun o=>?_,?_,hBz,hWz,kI,Mr⟩
 ·rw [Jf (Jc (Nt) _) _ _ S3,Kgq];exact h.fz o
 ·rw [Jf (Jc (Nt) _) _ _ S3,Kgq];exact h.fg o
 ·refine Kh0 Ua Mr Ua (fun j u hj=>Fy) ?_;refine h.off.grow (fun k _ h2 aS=>?_) Mr (.inl rfl);exact Ubb
theorem Ked.last2 {B z g:Nat} {ts:List Tk} {A:Option Addr} {cap:Nat} {W w:World} {x y:Ex} {st:St} {Ax Ay:Option Addr} {cx cy:Nat} (h:Ked B z g ts A cap W w x st Ax cx) (hy:Off (z+1) (some g) w (fun V=>Jt V y Ay cy)) (k n:Int) (nm:ByteArray) (t:TypeId) :
  Ked B z g ts A cap W ((Kel w g (.int .i64 k) (.int .i32 n) (.string nm) (.slice (some ⟨w.heap.size,0,none⟩) 2 2)).alloc (.cells #[.int .i64 x.kind,.int .i32 x.n,.string x.name,.slice Ax x.sub.length cx,.int .i64 y.kind,.int .i32 y.n,.string y.name,.slice Ay y.sub.length cy] t)) (.mk k n nm [x,y]) st (some ⟨w.heap.size,0,none⟩) 2:=by
 have eS:=h.glt;have kI:=h.zg;have hBz:=h.Bz;have hWz:=h.Wz;have hc:∀j v,w.cell? ⟨z,j,none⟩=some v->(Kel w g (.int .i64 k) (.int .i32 n) (.string nm) (.slice (some ⟨w.heap.size,0,none⟩) 2 2)).cell? ⟨z,j,none⟩=some v:=fun j v hv=>Jr (Kfr _ _ _ _ _ _ (by show z≠g;omega)) hv;have hh:=Kh3 (.int .i64 k) (.int .i32 n) (.string nm) (.slice (some ⟨w.heap.size,0,none⟩) 2 2) h.here.1 h.here.2.1 h.here.2.2.1 h.here.2.2.2
 have ix:∀P,Off (z+1) (some g) w P->Off (z+1) (some g) ((Kel w g (.int .i64 k) (.int .i32 n) (.string nm) (.slice (some ⟨w.heap.size,0,none⟩) 2 2)).alloc (.cells #[.int .i64 x.kind,.int .i32 x.n,.string x.name,.slice Ax x.sub.length cx,.int .i64 y.kind,.int .i32 y.n,.string y.name,.slice Ay y.sub.length cy] t)) P:=fun P hp=>by
  refine hp.grow (fun k _ h2 aS=>?_) Mr (.inl rfl);exact Ubb
 refine⟨Kga h.ps Ua _ _ _ _ _,Kfp h.kept Ua _ _ _ _ _,⟨J4 hh.1,J4 hh.2.1,J4 hh.2.2.1,J4 hh.2.2.2⟩,J4 (hc _ _ h.r0),J4 (hc _ _ h.r1),J4 (hc _ _ h.r2),J4 (hc _ _ h.r3),fun o=>?_,fun o=>?_,?_,hBz,hWz,kI,Mr⟩
 ·rw [Jf (Jc (Nt) _) _ _ S3,Kgq];exact h.fz o
 ·rw [Jf (Jc (Nt) _) _ _ S3,Kgq];exact h.fg o
 ·exact Kl1 Ua Mr Ua (fun j u hj=>Fy) (ix _ h.off) (ix _ hy)
theorem Km0 {base g:Nat} {w:World} {P:World->Prop} (h:Off base (some g) w P):Off base none w P:=fun w' jC=>h w' fun k h1 h2 _=>jC k h1 h2 Uh
theorem Ked.fin {B z g:Nat} {ts:List Tk} {A:Option Addr} {cap:Nat} {W w:World} {x:Ex} {st:St} {Ax:Option Addr} {cx:Nat} (h:Ked B z g ts A cap W w x st Ax cx) (v0 v1 v2 v3:Value) :
  Kdq B ts A cap W (x,st) (.returned (exV x Ax cx)) (Kel w z v0 v1 v2 v3):=by
 have hBz:=h.Bz;have hWz:=h.Wz;exact⟨⟨_,rfl,Ax,cx,rfl,Kgf (Km0 h.off) Ua Ua _ _ _ _⟩,Kd0 h.ps hBz _ _ _ _,Kdp h.kept Ua _ _ _ _⟩
theorem Kkt {B:Nat} {ts:List Tk} {A:Option Addr} {cap f:Nat} {st:St} {W:World} (ih:Kgx B ts A cap f) (h:X2 B ts A cap W st) (ai:ts.length<=100000) (hf:12 * (ts.length-st.pos)+1<f+1) :
  Calls Tryz.prog 124 #[.pointer (some ⟨B,0,none⟩)] W (Kdq B ts A cap W (K3 ts (f+1) .factor st)):=by
 have cm:=h.lt;have nn:=h.le;have aS:W.heap.size≠B:=Ua;have aY:=fun W' (hp:X2 B ts A cap W' st)=>(ih st W' hp).2.2.2.2 Ua;have hg:=Ke3 ts f .atom st;rw [K3];generalize K3 ts f .atom st=C at aY hg ⊢;obtain⟨x0,st0⟩:=C;have hga:=hg.1;have hgb:=hg.2 nn;obtain⟨R,hR⟩:∃R,R=K3 ts f (.floop x0) st0:=⟨_,rfl⟩;dsimp only at aY hga hgb ⊢;rw [<-hR];unfold Kdq Ke9 exV at aY;clear ih hg;have HP:=Nf h;clear h;have vi:=Nf hR;clear hR
 go_enter Tryz.func124,Tryz.ntmps124
 go_wp2_with (go_at_call 137;go_loud (refine(aY _ (HP.out.alloc _)).mono ?_;rintro r w1 ⟨⟨_,rfl,A1,c1,rfl,ln⟩,ii,cD⟩))
 have db:=Ked.start (t:=73) ii cm cD (by simpa using ln)
 go_loopg [] f (fun k wr=>∃x st' Ax cx,12 * (ts.length-st'.pos)<k/\K3 ts k (.floop x) st'=R/\Ked B W.heap.size w1.heap.size ts A cap W wr x st' Ax cx)
 case atStart=>exact⟨x0,st0,A1,c1,Ua,vi.out.symm,db⟩
 case round=>
  obtain⟨x,st',Ax,cx,hm,aa,dg⟩:=hrel;obtain⟨k,rfl⟩:∃k,gk=k+1:=⟨gk-1,Ua⟩;have hle':=dg.ps.le;rw [K3] at aa
  cases h1:Kc5 ts st' ⟨#[119,104,101,110]⟩
  ·rw [h1,if_neg Uh] at aa
   cases h2:Kc5 ts st' ⟨#[117,110,108,101,115,115]⟩
   ·rw [h2,if_neg Uh] at aa;have HR:=Nf aa;clear aa db;have wu:=dg.ps
    go_wp2_with (first
     | (go_at_call_of 18 (Value.string ⟨#[119,104,101,110]⟩);go_loud (refine(Kdf wu h1 ai).mono ?_;rintro r w2 ⟨rfl,gL,dz⟩))
     | (go_at_call_of 18 (Value.string ⟨#[117,110,108,101,115,115]⟩);go_loud (refine(Kdf gL h2 ai).mono ?_;rintro r w3 ⟨rfl,ip,dU⟩;have ov:=dg.on (dz.trans' dU) ip;obtain⟨c0,c1,c2,c3⟩:=ov.here;have f0:=ov.fz 0;have f1:=ov.fz 1;have f2:=ov.fz 2;have f3:=ov.fz 3;have r0:=ov.r0;have r1:=ov.r1;have r2:=ov.r2;have r3:=ov.r3;have fD:=ov.glt;have kI:=ov.zg)))
    refine Nv (v:=exV x Ax cx) (by simp [results,Tryz.results124,go_sem,exV, *]) rfl ?_;rw [<-HR.out];exact ov.fin _ _ _ _
   ·rw [h2,if_pos rfl] at aa;have am:=Ket h2;rw [Kdu h2] at aa;have aL:=fun W' (h':X2 B ts A cap W' ⟨st'.pos+1,st'.bad⟩)=>Kfd h' ai;have gn:=Kdz ts ⟨st'.pos+1,st'.bad⟩;generalize Kdn ts ⟨st'.pos+1,st'.bad⟩=N at aa aL gn;have gna:st'.pos+1<=N.2.pos:=gn.1;have gnb:=gn.2 Ui;have HR:=Nf aa;clear aa db gn;have wu:=dg.ps
    go_wp2_with (first
     | (go_at_call_of 18 (Value.string ⟨#[119,104,101,110]⟩);go_loud (refine(Kdf wu h1 ai).mono ?_;rintro r w2 ⟨rfl,gL,dz⟩))
     | (go_at_call_of 18 (Value.string ⟨#[117,110,108,101,115,115]⟩);go_loud (refine(Kdr gL h2 ai).mono ?_;rintro r w3 ⟨rfl,ip,dU⟩)))
    have ov:=dg.on (dz.trans' dU) ip;have q:=ov.here;have hBz:=ov.Bz;have kI:=ov.zg;have eS:=ov.glt;have al:w1.heap.size≠B:=Ua;refine Kd (fun V:World=>V.cell? ⟨w1.heap.size,0,none⟩=some (.int .i64 x.kind)/\V.cell? ⟨w1.heap.size,1,none⟩=some (.int .i32 x.n)/\V.cell? ⟨w1.heap.size,2,none⟩=some (.string x.name)/\V.cell? ⟨w1.heap.size,3,none⟩=some (.slice Ax x.sub.length cx)) 7 2 Ue Gp ?_;simp only [List.size_toArray,Nl,Nm,Nat.zero_add,Nat.reduceAdd];have ar:(w3).drew.cell? ⟨w1.heap.size,0,none⟩=some (.int .i64 x.kind)/\(w3).drew.cell? ⟨w1.heap.size,1,none⟩=some (.int .i32 x.n)/\(w3).drew.cell? ⟨w1.heap.size,2,none⟩=some (.string x.name)/\(w3).drew.cell? ⟨w1.heap.size,3,none⟩=some (.slice Ax x.sub.length cx):=q;refine Ji 0 ar ?_;refine Ji 1 ar ?_;refine Ji 2 ar ?_;refine Ji 3 ar ?_;refine Ji 5 ar ?_;refine Kja (i:=4) (j:=6) Ue Ul Ul rfl rfl ?_ ?_
    ·refine Jj fun K hK=>?_;go_simp;refine(aL _ (ip).drew).mono ?_;rintro r w5 ⟨rfl,dv,bb⟩;dsimp only;have q5:=kc4 (W:=(w3).drew) bb al eS q;refine hK _ _ ⟨q5,?_⟩;clear hK K
     try simp only [Act.put,sa1,sa2,sa3]
     refine Kb 6 ?_;refine Jj fun K hK=>?_;go_simp;refine hK _ _ ⟨ea4 _ q5,?_⟩;clear hK K
     try simp only [Act.put,sa1,sa2,sa3]
     have eK:=ov.drew.on bb dv;have c0:=eK.here.1;have c1:=eK.here.2.1;have c2:=eK.here.2.2.1;have c3:=eK.here.2.2.2;have f0:=eK.fg 0;have f1:=eK.fg 1;have f2:=eK.fg 2;have f3:=eK.fg 3;have hl5:=eK.glt;clear q q5 ar;refine Kh Ue ?_;refine Qx 7 ?_;refine Jj fun K hK=>?_;go_simp;refine hK _ _ ?_;clear hK K
     try simp only [Act.put,sa1,sa2,sa3]
     refine Qx 8 ?_;refine Jj fun K hK=>?_;go_simp;refine hK _ _ ?_;clear hK K
     try simp only [Act.put,sa1,sa2,sa3]
     refine Ki Ue ?_
     go_wp2_with fail
     go_roundg k
     case measure=>omega
     case rel=>exact⟨_,_,_,_,Ua,HR.out,eK.last1 9 N.1 73⟩
    ·refine Jj fun K hK=>?_;go_simp;refine hK _ _ ⟨ea4 _ q,?_⟩;clear hK K
     try simp only [Act.put,sa1,sa2,sa3]
     have hf4:=ov.drew.alloc (.cells #[.int .i64 x.kind,.int .i32 x.n,.string x.name,.slice Ax x.sub.length cx] 73);have hn4:(w3).heap.size≠B:=Ua;refine Kb 4 ?_;refine Jj fun K hK=>?_;go_simp;refine(aL _ hf4.ps).mono ?_;rintro r w5 ⟨rfl,dv,bb⟩;dsimp only;refine hK _ _ ⟨kc4 bb al hf4.glt hf4.here,?_⟩;clear hK K
     try simp only [Act.put,sa1,sa2,sa3]
     have eK:=hf4.on bb dv;have q4:=kc4 bb hn4 Uh (Kiw ((w3).drew) x Ax cx 73);have c0:=eK.here.1;have c1:=eK.here.2.1;have c2:=eK.here.2.2.1;have c3:=eK.here.2.2.2;have f0:=eK.fg 0;have f1:=eK.fg 1;have f2:=eK.fg 2;have f3:=eK.fg 3;have hl5:=eK.glt;have yx:=bb.size;replace yx:(w3).heap.size+1<=w5.heap.size:=by simpa using yx
     have Q4:=Nf q4;clear q q4 ar;refine Kh Ue ?_;refine Qx 7 ?_;refine Jj fun K hK=>?_;go_simp;refine hK _ _ ?_;clear hK K
     try simp only [Act.put,sa1,sa2,sa3]
     refine Qx 8 ?_;refine Jj fun K hK=>?_;go_simp;refine hK _ _ ?_;clear hK K
     try simp only [Act.put,sa1,sa2,sa3]
     refine Ki Ue ?_
     go_wp2_with fail
     go_roundg k
     case measure=>omega
     case rel=>
      refine⟨_,_,_,_,Ua,HR.out,eK.put (y:= .mk 9 0 N.1 [x]) (Kh0 (c:=(w3).heap.size) Ua Ua Ua (fun j u hj=>?_) eK.off)⟩;exact B7
  ·rw [h1,if_pos rfl] at aa;have am:=Ket h1;rw [Kdu h1] at aa;have aL:=fun W' (h':X2 B ts A cap W' ⟨st'.pos+1,st'.bad⟩)=>Kfd h' ai;have gn:=Kdz ts ⟨st'.pos+1,st'.bad⟩;generalize Kdn ts ⟨st'.pos+1,st'.bad⟩=N at aa aL gn;have gna:st'.pos+1<=N.2.pos:=gn.1;have gnb:=gn.2 Ui;have HR:=Nf aa;clear aa db gn;have wu:=dg.ps
   go_wp2_with (go_at_call_of 18 (Value.string ⟨#[119,104,101,110]⟩);go_loud (refine(Kdr wu h1 ai).mono ?_;rintro r w2 ⟨rfl,gL,dz⟩))
   have ov:=dg.on dz gL;have q:=ov.here;have hBz:=ov.Bz;have kI:=ov.zg;have eS:=ov.glt;have al:w1.heap.size≠B:=Ua;refine Kd (fun V:World=>V.cell? ⟨w1.heap.size,0,none⟩=some (.int .i64 x.kind)/\V.cell? ⟨w1.heap.size,1,none⟩=some (.int .i32 x.n)/\V.cell? ⟨w1.heap.size,2,none⟩=some (.string x.name)/\V.cell? ⟨w1.heap.size,3,none⟩=some (.slice Ax x.sub.length cx)) 7 2 Ue Gp ?_;simp only [List.size_toArray,Nl,Nm,Nat.zero_add,Nat.reduceAdd];have ar:(w2).drew.cell? ⟨w1.heap.size,0,none⟩=some (.int .i64 x.kind)/\(w2).drew.cell? ⟨w1.heap.size,1,none⟩=some (.int .i32 x.n)/\(w2).drew.cell? ⟨w1.heap.size,2,none⟩=some (.string x.name)/\(w2).drew.cell? ⟨w1.heap.size,3,none⟩=some (.slice Ax x.sub.length cx):=q;refine Ji 0 ar ?_;refine Ji 1 ar ?_;refine Ji 2 ar ?_;refine Ji 3 ar ?_;refine Ji 5 ar ?_;refine Kja (i:=4) (j:=6) Ue Ul Ul rfl rfl ?_ ?_
   ·refine Jj fun K hK=>?_;go_simp;refine(aL _ (gL).drew).mono ?_;rintro r w5 ⟨rfl,dv,bb⟩;dsimp only;have q5:=kc4 (W:=(w2).drew) bb al eS q;refine hK _ _ ⟨q5,?_⟩;clear hK K
    try simp only [Act.put,sa1,sa2,sa3]
    refine Kb 6 ?_;refine Jj fun K hK=>?_;go_simp;refine hK _ _ ⟨ea4 _ q5,?_⟩;clear hK K
    try simp only [Act.put,sa1,sa2,sa3]
    have eK:=ov.drew.on bb dv;have c0:=eK.here.1;have c1:=eK.here.2.1;have c2:=eK.here.2.2.1;have c3:=eK.here.2.2.2;have f0:=eK.fg 0;have f1:=eK.fg 1;have f2:=eK.fg 2;have f3:=eK.fg 3;have hl5:=eK.glt;clear q q5 ar;refine Kh Ue ?_;refine Qx 7 ?_;refine Jj fun K hK=>?_;go_simp;refine hK _ _ ?_;clear hK K
    try simp only [Act.put,sa1,sa2,sa3]
    refine Qx 8 ?_;refine Jj fun K hK=>?_;go_simp;refine hK _ _ ?_;clear hK K
    try simp only [Act.put,sa1,sa2,sa3]
    refine Ki Ue ?_
    go_wp2_with fail
    go_roundg k
    case measure=>omega
    case rel=>exact⟨_,_,_,_,Ua,HR.out,eK.last1 8 N.1 73⟩
   ·refine Jj fun K hK=>?_;go_simp;refine hK _ _ ⟨ea4 _ q,?_⟩;clear hK K
    try simp only [Act.put,sa1,sa2,sa3]
    have hf4:=ov.drew.alloc (.cells #[.int .i64 x.kind,.int .i32 x.n,.string x.name,.slice Ax x.sub.length cx] 73);have hn4:(w2).heap.size≠B:=Ua;refine Kb 4 ?_;refine Jj fun K hK=>?_;go_simp;refine(aL _ hf4.ps).mono ?_;rintro r w5 ⟨rfl,dv,bb⟩;dsimp only;refine hK _ _ ⟨kc4 bb al hf4.glt hf4.here,?_⟩;clear hK K
    try simp only [Act.put,sa1,sa2,sa3]
    have eK:=hf4.on bb dv;have q4:=kc4 bb hn4 Uh (Kiw ((w2).drew) x Ax cx 73);have c0:=eK.here.1;have c1:=eK.here.2.1;have c2:=eK.here.2.2.1;have c3:=eK.here.2.2.2;have f0:=eK.fg 0;have f1:=eK.fg 1;have f2:=eK.fg 2;have f3:=eK.fg 3;have hl5:=eK.glt;have yx:=bb.size;replace yx:(w2).heap.size+1<=w5.heap.size:=by simpa using yx
    have Q4:=Nf q4;clear q q4 ar;refine Kh Ue ?_;refine Qx 7 ?_;refine Jj fun K hK=>?_;go_simp;refine hK _ _ ?_;clear hK K
    try simp only [Act.put,sa1,sa2,sa3]
    refine Qx 8 ?_;refine Jj fun K hK=>?_;go_simp;refine hK _ _ ?_;clear hK K
    try simp only [Act.put,sa1,sa2,sa3]
    refine Ki Ue ?_
    go_wp2_with fail
    go_roundg k
    case measure=>omega
    case rel=>
     refine⟨_,_,_,_,Ua,HR.out,eK.put (y:= .mk 8 0 N.1 [x]) (Kh0 (c:=(w2).heap.size) Ua Ua Ua (fun j u hj=>?_) eK.off)⟩;exact B7
theorem Kiu (k:Nat):∀s∈Kdx k,s≠⟨#[]⟩:=by
 have ne:∀(c:UInt8) (l:List UInt8),(⟨(c :: l).toArray⟩:ByteArray)≠⟨#[]⟩:=fun c l h=>by injection h with h;simp at h
 intro s hs;unfold Kdx at hs
 repeat' split at hs
 all_goals
  simp only [List.mem_cons,List.not_mem_nil,or_false] at hs
  repeat' rcases hs with rfl|hs
  all_goals first
   | exact ne _ _
   | (subst hs;exact ne _ _)
theorem Kmn (ts:List Tk) (st:St):∀(l:List ByteArray),(∀s∈l,s≠⟨#[]⟩)->(Kd7 ts st l).1≠⟨#[]⟩->st.pos<(Kd7 ts st l).2.pos
 | [],_,h0=>absurd rfl h0
 | s :: l,h,h0=>by
  unfold Kd7 at h0 ⊢
  split
  ·exact Uh
  ·rename_i hs;rw [if_neg hs] at h0;exact Kmn ts st l (fun x hx=>h x L8) h0
theorem Kn0 {base b0 g:Nat} {w:World} {P:World->Prop} (h:Off b0 none w P) (hb:base<=b0) (hg:g<b0):Off base (some g) w P:=h.fresh hb (fun _ _ _=>rfl) (Ns _) fun k hk=>Db
theorem Klk {B:Nat} {ts:List Tk} {A:Option Addr} {cap f:Nat} {st:St} {W:World} (ih:Kgx B ts A cap f) (h:X2 B ts A cap W st) (hf:12 * (ts.length-st.pos)+3<f+1) :
  Calls Tryz.prog 86 #[.pointer (some ⟨B,0,none⟩),.int .i64 6] W (Kdq B ts A cap W (K3 ts (f+1) (.level 6) st)):=by
 have cm:=h.lt;have aS:W.heap.size≠B:=Ua;have gG:=fun W' (hp:X2 B ts A cap W' st)=>(ih st W' hp).2.2.1 Ua;rw [K3,if_pos rfl];generalize K3 ts f .unary st=R at gG ⊢;unfold Kdq Ke9 exV at gG;have HP:=Nf h;clear ih h
 go_enter Tryz.func86,Tryz.ntmps86
 go_wp2_with (go_at_call 107;go_loud (refine(gG _ (HP.out.alloc _)).mono ?_;rintro r w1 ⟨⟨_,rfl,A1,c1,rfl,ln⟩,ii,cD⟩;have aW:=K1 cD;have bS:=kfz cD;have hz:=cD.size;(try simp at hz);have dG:=lt0 W w1))
 refine Nv (v:=exV R.1 A1 c1) (by simp [results,Tryz.results86,go_sem,exV, *]) rfl ?_;exact⟨⟨_,rfl,A1,c1,rfl,Kgf ln Uh Uh _ _ _ _⟩,Kd0 ii cm _ _ _ _,Kdp (K2 cD) (Ns _) _ _ _ _⟩
theorem Klq {B:Nat} {ts:List Tk} {A:Option Addr} {cap f k:Nat} {st:St} {W:World} (ih:∀f'<f+1,Kgx B ts A cap f') (h:X2 B ts A cap W st) (ai:ts.length<=100000) (hk:k<6) (hf:12 * (ts.length-st.pos)+(9-k)<f+1) :
  Calls Tryz.prog 86 #[.pointer (some ⟨B,0,none⟩),.int .i64 k] W (Kdq B ts A cap W (K3 ts (f+1) (.level k) st)):=by
 have cm:=h.lt;have nn:=h.le;have aS:W.heap.size≠B:=Ua;have hki:(k:Int)<6:=Ua;have cu:((k:Int) == 6)=false:=Ui;have ek:((k+1:Nat):Int)=(k:Int)+1:=Ua;have hwr:IntKind.i64.wrap ((k:Int)+1)=(k:Int)+1:=IntWalk.i64_in _ Ua;have HWR:=Nf hwr;have hlv:=fun W' (hp:X2 B ts A cap W' st)=>(ih f Ua st W' hp).2.1 (k+1) Ua Ua;have hg:=Ke3 ts f (.level (k+1)) st;rw [K3,if_neg Ua];generalize K3 ts f (.level (k+1)) st=C at hlv hg ⊢;obtain⟨x0,st0⟩:=C;have hga:=hg.1;have hgb:=hg.2 nn;obtain⟨R,hR⟩:∃R,R=K3 ts f (.loop k x0) st0:=⟨_,rfl⟩;dsimp only at hlv hga hgb ⊢;rw [<-hR];rw [ek] at hlv;unfold Kdq Ke9 exV at hlv;clear hg hwr;have HP:=Nf h;clear h;have vi:=Nf hR;clear hR;have IH:=Nf ih;clear ih
 go_enter Tryz.func86,Tryz.ntmps86
 go_wp2_with (go_at_call 86;go_loud (refine(hlv _ (HP.out.alloc _)).mono ?_;rintro r w1 ⟨⟨_,rfl,A1,c1,rfl,ln⟩,ii,cD⟩))
 have db:=Ked.start (t:=73) ii cm cD (by simpa using ln);clear hlv ln ii cD;refine Kd (fun _:World=>True) 5 2 Ue Gp ?_;simp only [List.size_toArray,Nl,Nm,Nat.zero_add,Nat.reduceAdd];refine Ji 0 trivial ?_;refine Ji 1 trivial ?_;refine Ji 2 trivial ?_;refine Ji 3 trivial ?_;refine Kb 4 ?_;refine Jj fun K hK=>?_;go_simp;refine(Ki9 k hk _).mono ?_;rintro r w2 ⟨⟨Al,rfl,hol⟩,ij⟩;dsimp only;have wZ:=db.drew.on (J6.bel ij) (db.drew.ps.later ij);refine hK _ _ ⟨trivial,?_⟩;clear hK K
 try simp only [Act.put,sa1,sa2,sa3]
 have hBm:B<(w1.alloc (.cells #[.int .i64 x0.kind,.int .i32 x0.n,.string x0.name,.slice A1 x0.sub.length c1] 73)).drew.heap.size:=Nat.lt_trans (db.Bz) (Nat.lt_trans db.zg db.glt);refine Kh Ue ?_;refine Qx 5 ?_;refine Jj fun K hK=>?_;go_simp;refine(Kj0 wZ.ps ai (Kdx k) Al _ (Kj3 hol hBm)).mono ?_;rintro r wy ⟨rfl,hpy,hky⟩;dsimp only;have hfy:=wZ.on hky hpy;refine hK _ _ ?_;clear hK K
 try simp only [Act.put,sa1,sa2,sa3]
 clear hol ij hky wZ hBm;refine Qx 6 ?_;refine Jj fun K hK=>?_;go_simp;refine hK _ _ ?_;clear hK K
 try simp only [Act.put,sa1,sa2,sa3]
 refine Ki Ue ?_;clear db hpy
 go_wp2_with fail
 go_loopg [6] f (fun kk sv wr=>∃x st' Ax cx,12 * (ts.length-st'.pos)<kk/\kk<=f/\sv = .string (Kd7 ts st' (Kdx k)).1/\K3 ts kk (.loop k x) st'=R/\Ked B W.heap.size w1.heap.size ts A cap W wr x (Kd7 ts st' (Kdx k)).2 Ax cx)
 case atStart=>exact⟨x0,st0,A1,c1,Ua,Ns _,rfl,vi.out.symm,hfy⟩
 case round=>
  obtain⟨x,st',Ax,cx,hm,hkf,rfl,aa,dg⟩:=hrel;clear hfy;obtain⟨kk,rfl⟩:∃k,gk=k+1:=⟨gk-1,Ua⟩;rw [K3] at aa
  by_cases h0:(Kd7 ts st' (Kdx k)).1.size=0
  ·rw [if_pos h0] at aa;have hz:(Kd7 ts st' (Kdx k)).1=⟨#[]⟩:=by ext1;apply Array.eq_empty_of_size_eq_zero;rw [ByteArray.size_data];exact h0
   rw [Kl0 ts st' _ (Kiu k) hz] at dg;rw [hz];obtain⟨c0,c1,c2,c3⟩:=dg.here;have f0:=dg.fz 0;have f1:=dg.fz 1;have f2:=dg.fz 2;have f3:=dg.fz 3;have r0:=dg.r0;have r1:=dg.r1;have r2:=dg.r2;have r3:=dg.r3;have fD:=dg.glt;have kI:=dg.zg;have HR:=Nf aa;clear aa h0 hz
   go_wp2_with fail
   refine Nv (v:=exV x Ax cx) (by simp [results,Tryz.results86,go_sem,exV, *]) rfl ?_;rw [<-HR.out];exact dg.fin _ _ _ _
  ·rw [if_neg h0] at aa;have hle':=dg.ps.le;have kz:=(Kg9 ts st' (Kdx k)).1;have hem:(Kd7 ts st' (Kdx k)).1.toList.isEmpty=false:=Jfp Ua;have wu:st'.pos<(Kd7 ts st' (Kdx k)).2.pos:=Kmn ts st' _ (Kiu k) (fun h=>h0 (by rw [h];rfl));generalize Kd7 ts st' (Kdx k)=Y at *;obtain⟨s,st2⟩:=Y;dsimp only at *;have hlw:=fun W' (hp:X2 B ts A cap W' st2)=>(IH.out kk Ua st2 W' hp).2.1 (k+1) Ua Ua;have oL:=(Ke3 ts kk (.level (k+1)) st2).1;generalize K3 ts kk (.level (k+1)) st2=D at hlw oL aa;rw [ek,<-HWR.out] at hlw;unfold Kdq Ke9 exV at hlw;obtain⟨y,st3⟩:=D;dsimp only at hlw oL aa;clear h0;have HR:=Nf aa;clear aa;have q:=dg.here;have eS:=dg.glt;have kI:=dg.zg;have hBz:=dg.Bz;have al:w1.heap.size≠B:=Ua
   go_wp2_with fail
   refine Kd (fun V:World=>V.cell? ⟨w1.heap.size,0,none⟩=some (.int .i64 x.kind)/\V.cell? ⟨w1.heap.size,1,none⟩=some (.int .i32 x.n)/\V.cell? ⟨w1.heap.size,2,none⟩=some (.string x.name)/\V.cell? ⟨w1.heap.size,3,none⟩=some (.slice Ax x.sub.length cx)) 7 3 Ue Gp ?_;simp only [List.size_toArray,Nl,Nm,Nat.zero_add,Nat.reduceAdd];have ar:wr.drew.cell? ⟨w1.heap.size,0,none⟩=some (.int .i64 x.kind)/\wr.drew.cell? ⟨w1.heap.size,1,none⟩=some (.int .i32 x.n)/\wr.drew.cell? ⟨w1.heap.size,2,none⟩=some (.string x.name)/\wr.drew.cell? ⟨w1.heap.size,3,none⟩=some (.slice Ax x.sub.length cx):=q;refine Ji 0 ar ?_;refine Ji 2 ar ?_;refine Ji 3 ar ?_;refine Ji 4 ar ?_;refine Ji 5 ar ?_;refine Kb 1 ?_;refine Jj fun K hK=>?_;go_simp;refine(Kmv _ _).mono ?_;rintro r w5 ⟨rfl,rfl⟩;dsimp only;refine hK _ _ ⟨ar,?_⟩;clear hK K
   try simp only [Act.put,sa1,sa2,sa3]
   refine Kb 6 ?_;refine Jj fun K hK=>?_;go_simp;refine(hlw _ dg.drew.ps).mono ?_;rintro r w6 ⟨⟨_,rfl,Ay,cy,rfl,hoy⟩,tj,cu⟩;dsimp only;refine hK _ _ ⟨kc4 cu al dg.drew.glt dg.drew.here,?_⟩;clear hK K
   try simp only [Act.put,sa1,sa2,sa3]
   have hf6:=dg.drew.on cu tj;have hoy':Off (W.heap.size+1) (some w1.heap.size) w6 (fun V=>Jt V y Ay cy):=Kn0 hoy (by show W.heap.size+1<=wr.heap.size;omega) (by show w1.heap.size<wr.heap.size;omega);have c0:=hf6.here.1;have c1:=hf6.here.2.1;have c2:=hf6.here.2.2.1;have c3:=hf6.here.2.2.2;have f0:=hf6.fg 0;have f1:=hf6.fg 1;have f2:=hf6.fg 2;have f3:=hf6.fg 3;have hl6:=hf6.glt;clear q ar hoy cu tj;refine Kh Ue ?_;refine Qx 7 ?_;refine Jj fun K hK=>?_;go_simp;refine hK _ _ ?_;clear hK K
   try simp only [Act.put,sa1,sa2,sa3]
   refine Qx 8 ?_;refine Jj fun K hK=>?_;go_simp;refine hK _ _ ?_;clear hK K
   try simp only [Act.put,sa1,sa2,sa3]
   refine Qx 9 ?_;refine Jj fun K hK=>?_;go_simp;refine hK _ _ ?_;clear hK K
   try simp only [Act.put,sa1,sa2,sa3]
   refine Ki Ue ?_;have hf7:=hf6.last2 hoy' 5 (opF s) ⟨#[]⟩ 73;refine Zc fun V hV=>?_;have hfV:Ked B W.heap.size w1.heap.size ts A cap W V (.mk 5 (opF s) ⟨#[]⟩ [x,y]) st3 (some ⟨w6.heap.size,0,none⟩) 2:=by rw [hV];exact hf7
   clear hV hf7 hf6 hoy' c0 c1 c2 c3 f0 f1 f2 f3 dg
   cases dz:((k:Int) == 2)
   ·have hk2':¬k=2:=by simp at dz;omega
    have fa:=HR.out;rw [if_neg hk2'] at fa;have sN:=Nf fa;clear HR hk2' fa
    go_wp2_with fail
    refine Kd (fun _:World=>True) 5 2 Ue Gp ?_;simp only [List.size_toArray,Nl,Nm,Nat.zero_add,Nat.reduceAdd];refine Ji 0 trivial ?_;refine Ji 1 trivial ?_;refine Ji 2 trivial ?_;refine Ji 3 trivial ?_;refine Kb 4 ?_;refine Jj fun K hK=>?_;go_simp;refine(Ki9 k hk _).mono ?_;rintro r w2 ⟨⟨Al,rfl,hol⟩,ij⟩;dsimp only;have wZ:=hfV.drew.on (J6.bel ij) (hfV.drew.ps.later ij);refine hK _ _ ⟨trivial,?_⟩;clear hK K
    try simp only [Act.put,sa1,sa2,sa3]
    have hBm:B<(V).drew.heap.size:=Nat.lt_trans (hfV.Bz) (Nat.lt_trans hfV.zg hfV.glt);refine Kh Ue ?_;refine Qx 5 ?_;refine Jj fun K hK=>?_;go_simp;refine(Kj0 wZ.ps ai (Kdx k) Al _ (Kj3 hol hBm)).mono ?_;rintro r wy ⟨rfl,hpy,hky⟩;dsimp only;have hfy:=wZ.on hky hpy;refine hK _ _ ?_;clear hK K
    try simp only [Act.put,sa1,sa2,sa3]
    clear hol ij hky wZ hBm;refine Qx 6 ?_;refine Jj fun K hK=>?_;go_simp;refine hK _ _ ?_;clear hK K
    try simp only [Act.put,sa1,sa2,sa3]
    refine Ki Ue ?_;clear hfV hpy
    go_wp2_with fail
    go_roundg kk
    case measure=>omega
    case rel=>exact⟨_,_,_,_,Ua,Ua,rfl,sN.out,hfy⟩
   ·have hk2':k=2:=by simp at dz;omega
    have fa:=HR.out;rw [if_pos hk2'] at fa;have sN:=Nf fa;clear HR hk2' fa;obtain⟨c0,c1,c2,c3⟩:=hfV.here;have f0:=hfV.fz 0;have f1:=hfV.fz 1;have f2:=hfV.fz 2;have f3:=hfV.fz 3;have r0:=hfV.r0;have r1:=hfV.r1;have r2:=hfV.r2;have r3:=hfV.r3;have fD:=hfV.glt;simp only [Ex.kind,Ex.n,Ex.name,Ex.sub,Nl,Nm] at c0 c1 c2 c3
    go_wp2_with fail
    refine Nv (v:=exV (.mk 5 (opF s) ⟨#[]⟩ [x,y]) (some ⟨w6.heap.size,0,none⟩) 2) (by simp [results,Tryz.results86,go_sem,exV,Ex.kind,Ex.n,Ex.name,Ex.sub, *]) rfl ?_;rw [<-sN.out];exact hfV.fin _ _ _ _
theorem Kl2 {B:Nat} {ts:List Tk} {A:Option Addr} {cap:Nat} (ai:ts.length<=100000):∀f,Kgx B ts A cap f:=by
 intro f
 induction f using Nat.strongRecOn with
 | ind f ih=>
 match f,ih with
 | 0,_=>exact fun st W h=>⟨fun h=>absurd h Ua,fun k _ h=>absurd h Ua,fun h=>absurd h Ua,fun h=>absurd h Ua,fun h=>absurd h Ua⟩
 | f+1,ih=>
  have ih0:=ih f Ua;refine fun st W h=>⟨fun hf=>Kl8 ih0 h ai hf,fun k hk hf=>?_,fun hf=>Klo ih0 h ai hf,fun hf=>Kkt ih0 h ai hf,fun hf=>Kmj ih0 h ai hf⟩
  rcases Nat.lt_or_ge k 6 with cu|cu
  ·exact Klq ih h ai cu hf
  ·obtain rfl:k=6:=Ua;exact Klk ih0 h Ua
theorem Kog {B:Nat} {ts:List Tk} {A:Option Addr} {cap:Nat} {st:St} {W:World} (h:X2 B ts A cap W st) (ai:ts.length<=100000) :
  Calls Tryz.prog 43 #[.pointer (some ⟨B,0,none⟩)] W (Kdq B ts A cap W (K3 ts (Kfc ts) .expr st)):=
 (Kl2 ai (Kfc ts) st W h).1 (by unfold Kfc;omega)
theorem Koe {B:Nat} {ts:List Tk} {A:Option Addr} {cap:Nat} {st:St} {W:World} (h:X2 B ts A cap W st) (ai:ts.length<=100000) :
  Calls Tryz.prog 84 #[.pointer (some ⟨B,0,none⟩)] W (Keu B ts A cap W (vaV (Kec ts st).1) (Kec ts st).2):=by
 have cm:=h.lt;have aS:W.heap.size≠B:=Ua;have aL:=fun W' (h':X2 B ts A cap W' st)=>Kfd h' ai;unfold Kec;generalize Kdn ts st=N at aL ⊢;obtain⟨nm,st1⟩:=N;dsimp only at aL ⊢;have eR:=fun W' (h':X2 B ts A cap W' st1)=>Koc h' ⟨#[58]⟩ ai;generalize Kda ts st1 ⟨#[58]⟩=st2 at eR ⊢;have eu:=fun W' (h':X2 B ts A cap W' st2)=>Koc h' ⟨#[105,110,116]⟩ ai;generalize Kda ts st2 ⟨#[105,110,116]⟩=st3 at eu ⊢;have HP:=Nf h;clear h;unfold vaV
 cases h1:Kc5 ts st2 ⟨#[98,111,111,108]⟩
 ·rw [if_neg Uh]
  go_enter Tryz.func84,Tryz.ntmps84
  go_wp2_with (first
   | (go_at_call 38;go_loud (refine(aL _ (HP.out.alloc _)).mono ?_;rintro r w1 ⟨rfl,ii,cD⟩;have af:=cD.size;(try simp at af);have er:w1.heap.size≠B:=Ua))
   | (go_at_call_of 37 (Value.string ⟨#[105,110,116]⟩);go_loud (refine(eu _ ip).mono ?_;rintro r w4 ⟨rfl,bT,iA⟩;have pG:=dz.trans' (dU.trans' iA);have hk:=cD.trans' (K2 pG);have aW:=K1 hk;have bS:=kfz hk;have hcg:=K1 pG;have hz:=pG.size;(try simp at hz);have dG:=lt0 W w4;have cA:=lt0 w1 w4))
   | (go_at_call_of 37 (Value.string ⟨#[58]⟩);go_loud (refine(eR _ (ii.alloc _)).mono ?_;rintro r w2 ⟨rfl,gL,dz⟩))
   | (go_at_call 18;go_loud (refine(Kdf gL h1 ai).mono ?_;rintro r w3 ⟨rfl,ip,dU⟩)))
  refine Nv (v:= .agg #[.string nm,.int .i64 1,.int .i64 0,.string ⟨#[]⟩]) (by simp [results,Tryz.results84,go_sem, *]) rfl ?_;exact⟨rfl,Kd0 bT cm _ _ _ _,Kdp (K2 hk) (Ns _) _ _ _ _⟩
 ·rw [if_pos rfl,Kdu h1]
  go_enter Tryz.func84,Tryz.ntmps84
  go_wp2_with (first
   | (go_at_call 38;go_loud (refine(aL _ (HP.out.alloc _)).mono ?_;rintro r w1 ⟨rfl,ii,cD⟩;have af:=cD.size;(try simp at af);have er:w1.heap.size≠B:=Ua))
   | (go_at_call_of 37 (Value.string ⟨#[58]⟩);go_loud (refine(eR _ (ii.alloc _)).mono ?_;rintro r w2 ⟨rfl,gL,dz⟩))
   | (go_at_call 18;go_loud (refine(Kdr gL h1 ai).mono ?_;rintro r w3 ⟨rfl,ip,dU⟩;have pG:=dz.trans' dU;have hk:=cD.trans' (K2 pG);have aW:=K1 hk;have bS:=kfz hk;have hcg:=K1 pG;have hfg:=kfz pG;have hz:=pG.size;(try simp at hz);have dG:=lt0 W w3;have cA:=lt0 w1 w3)))
  refine Nv (v:= .agg #[.string nm,.int .i64 2,.int .i64 0,.string ⟨#[]⟩]) (by simp [results,Tryz.results84,go_sem, *]) rfl ?_;exact⟨rfl,Kd0 (ip.beyond Ua _ _) cm _ _ _ _,Kdp ((K2 hk).fresh Ua _ _) (Ns _) _ _ _ _⟩
theorem Kj1 {B:Nat} {ts:List Tk} {A:Option Addr} {cap:Nat} {st:St} {W:World} (h:X2 B ts A cap W st) (ai:ts.length<=100000) :
  Calls Tryz.prog 40 #[.pointer (some ⟨B,0,none⟩)] W (Keu B ts A cap W (vaV (Kez ts st).1) (Kez ts st).2):=by
 have cm:=h.lt;have aS:W.heap.size≠B:=Ua;have hd:=fun W' (h':X2 B ts A cap W' st)=>Koe h' ai;unfold Kez;generalize Kec ts st=D at hd ⊢;obtain⟨⟨dn,dt,dk,dc⟩,st1⟩:=D;unfold vaV at hd ⊢;dsimp only at hd ⊢;have HP:=Nf h;clear h
 cases h1:Kc5 ts st1 ⟨#[119,104,101,110]⟩
 ·rw [if_neg Uh]
  cases h2:Kc5 ts st1 ⟨#[117,110,108,101,115,115]⟩
  ·rw [if_neg Uh];have nq:=fun W' (h':X2 B ts A cap W' st1)=>Koc h' ⟨#[59]⟩ ai;generalize Kda ts st1 ⟨#[59]⟩=st3 at nq ⊢
   go_enter Tryz.func40,Tryz.ntmps40
   go_wp2_with (first
    | (go_at_call 84;go_loud (refine(hd _ (HP.out.alloc _)).mono ?_;rintro r w1 ⟨rfl,ii,cD⟩;have af:=cD.size;(try simp at af);have er:w1.heap.size≠B:=Ua))
    | (go_at_call_of 18 (Value.string ⟨#[119,104,101,110]⟩);go_loud (refine(Kdf (ii.alloc _) h1 ai).mono ?_;rintro r w2 ⟨rfl,gL,dz⟩))
    | (go_at_call_of 18 (Value.string ⟨#[117,110,108,101,115,115]⟩);go_loud (refine(Kdf gL h2 ai).mono ?_;rintro r w3 ⟨rfl,ip,dU⟩))
    | (go_at_call 37;go_loud (refine(nq _ ip).mono ?_;rintro r w5 ⟨rfl,dv,bb⟩;have pG:=dz.trans' (dU.trans' bb);have hk:=cD.trans' (K2 pG);have aW:=K1 hk;have bS:=kfz hk;have hcg:=K1 pG;have hz:=pG.size;(try simp at hz);have dG:=lt0 W w5;have cA:=lt0 w1 w5)))
   refine Nv (v:= .agg #[.string dn,.int .i64 dt,.int .i64 dk,.string dc]) Gt rfl ?_;exact Ub2
  ·rw [if_pos rfl,Kdu h2];have aL:=fun W' (h':X2 B ts A cap W' ⟨st1.pos+1,st1.bad⟩)=>Kfd h' ai;generalize Kdn ts ⟨st1.pos+1,st1.bad⟩=N at aL ⊢;obtain⟨nm,st2⟩:=N;dsimp only at aL ⊢;have nq:=fun W' (h':X2 B ts A cap W' st2)=>Koc h' ⟨#[59]⟩ ai;generalize Kda ts st2 ⟨#[59]⟩=st3 at nq ⊢
   go_enter Tryz.func40,Tryz.ntmps40
   go_wp2_with (first
    | (go_at_call 84;go_loud (refine(hd _ (HP.out.alloc _)).mono ?_;rintro r w1 ⟨rfl,ii,cD⟩;have af:=cD.size;(try simp at af);have er:w1.heap.size≠B:=Ua))
    | (go_at_call_of 18 (Value.string ⟨#[119,104,101,110]⟩);go_loud (refine(Kdf (ii.alloc _) h1 ai).mono ?_;rintro r w2 ⟨rfl,gL,dz⟩))
    | (go_at_call_of 18 (Value.string ⟨#[117,110,108,101,115,115]⟩);go_loud (refine(Kdr gL h2 ai).mono ?_;rintro r w3 ⟨rfl,ip,dU⟩))
    | (go_at_call 38;go_loud (refine(aL _ ip).mono ?_;rintro r w4 ⟨rfl,bT,iA⟩;have pG:=(dz.trans' dU).trans' iA;have hcg:=K1 pG;have hfg:=kfz pG;have qS:=pG.size;(try simp at qS);have cA:=lt0 w1 w4))
    | (go_at_call 37;go_loud (refine(nq _ ((bT.beyond Ua _ _).beyond Ua _ _)).mono ?_;rintro r w5 ⟨rfl,dv,bb⟩;have hk:=(((cD.trans' (K2 pG)).fresh (c:=w1.heap.size) Ui _ _).fresh (c:=w1.heap.size) Ui _ _).trans' bb;have aW:=K1 hk;have bS:=kfz hk;have vL:=K1 bb;have yx:=bb.size;(try simp at yx);have dG:=lt0 W w5;have kh:=lt0 w1 w5)))
   refine Nv (v:= .agg #[.string dn,.int .i64 dt,.int .i64 2,.string nm]) Gt rfl ?_;exact Ub2
 ·rw [if_pos rfl,Kdu h1];have aL:=fun W' (h':X2 B ts A cap W' ⟨st1.pos+1,st1.bad⟩)=>Kfd h' ai;generalize Kdn ts ⟨st1.pos+1,st1.bad⟩=N at aL ⊢;obtain⟨nm,st2⟩:=N;dsimp only at aL ⊢;have nq:=fun W' (h':X2 B ts A cap W' st2)=>Koc h' ⟨#[59]⟩ ai;generalize Kda ts st2 ⟨#[59]⟩=st3 at nq ⊢
  go_enter Tryz.func40,Tryz.ntmps40
  go_wp2_with (first
   | (go_at_call 84;go_loud (refine(hd _ (HP.out.alloc _)).mono ?_;rintro r w1 ⟨rfl,ii,cD⟩;have af:=cD.size;(try simp at af);have er:w1.heap.size≠B:=Ua))
   | (go_at_call_of 18 (Value.string ⟨#[119,104,101,110]⟩);go_loud (refine(Kdr (ii.alloc _) h1 ai).mono ?_;rintro r w2 ⟨rfl,gL,dz⟩))
   | (go_at_call 38;go_loud (refine(aL _ gL).mono ?_;rintro r w4 ⟨rfl,bT,iA⟩;have pG:=dz.trans' iA;have hcg:=K1 pG;have hfg:=kfz pG;have qS:=pG.size;(try simp at qS);have cA:=lt0 w1 w4))
   | (go_at_call 37;go_loud (refine(nq _ ((bT.beyond Ua _ _).beyond Ua _ _)).mono ?_;rintro r w5 ⟨rfl,dv,bb⟩;have hk:=(((cD.trans' (K2 pG)).fresh (c:=w1.heap.size) Ui _ _).fresh (c:=w1.heap.size) Ui _ _).trans' bb;have aW:=K1 hk;have bS:=kfz hk;have vL:=K1 bb;have yx:=bb.size;(try simp at yx);have dG:=lt0 W w5;have kh:=lt0 w1 w5)))
  refine Nv (v:= .agg #[.string dn,.int .i64 dt,.int .i64 1,.string nm]) Gt rfl ?_;exact Ub2
theorem X2.past {B:Nat} {ts:List Tk} {A:Option Addr} {cap:Nat} {W W':World} {st:St} (h:X2 B ts A cap W st) (hs:∀k,k<=B->W'.heap[k]?=W.heap[k]?):X2 B ts A cap W' st:=by
 refine⟨Jr (hs _ (Ns _)) h.c0,Jr (hs _ (Ns _)) h.c1,Jr (hs _ (Ns _)) h.c2,(World.frozen?_of_block (hs _ (Ns _))).trans h.f1,(World.frozen?_of_block (hs _ (Ns _))).trans h.f2,(World.frozen?_of_block (hs _ (Ns _))).trans h.f0,⟨h.toks.1,h.toks.2.1,fun hl=>?_⟩,h.le⟩;obtain⟨b,off,hA,hB,hr⟩:=h.toks.2.2 hl;exact⟨b,off,hA,hB,fun k t ht=>⟨Jr (hs _ (Nat.le_of_lt hB)) (hr k t ht).c0,Jr (hs _ (Nat.le_of_lt hB)) (hr k t ht).c1,Jr (hs _ (Nat.le_of_lt hB)) (hr k t ht).c2,Jr (hs _ (Nat.le_of_lt hB)) (hr k t ht).c3⟩⟩
theorem X2.app {B base n size:Nat} {ts:List Tk} {A:Option Addr} {cap:Nat} {W W':World} {st:St} {e:TypeId} {v:Value} {xs:List Value} (h:X2 B ts A cap W st) (ho:W.ownsRow base e size v n xs) (hB:B<base) (hg:W.grownBy W' v.ownBlock):X2 B ts A cap W' st:=
 h.past fun k hk=>hg.block k (Nat.lt_of_le_of_lt hk h.lt) fun he=>by have:=(ho.lt k he.symm).1;omega
theorem J6.app {B base n size:Nat} {W0 W W':World} {e:TypeId} {v:Value} {xs:List Value} (h:J6 (fun b=>b=B) W0 W) (ho:W.ownsRow base e size v n xs) (hb:W0.heap.size<=base) (hg:W.grownBy W' v.ownBlock):J6 (fun b=>b=B) W0 W':=
 h.trans (J6.grown (S:=fun k=>v.ownBlock=some k) hg fun k hk=>hk) fun k hk hs=>by have:=(ho.lt k hs).1;omega
theorem Khg {B base n size:Nat} {W W':World} {e:TypeId} {v:Value} {xs:List Value} (ho:W.ownsRow base e size v n xs) (hB:B<base) (hk:J6 (fun b=>b=B) W W'):W'.ownsRow base e size v n xs:=
 hk.own (fun b hb=>by have:=(ho.lt b hb).1;show ¬b=B;omega) ho
theorem Kia {w:World} {base:Nat} {e:TypeId} {l:List Va} {A:Option Addr} {cap:Nat} (h:w.ownsRow base e 4 (.slice A l.length cap) l.length (Xe l)):Off base none w (fun V=>Ju V l A cap):=by
 rcases Nat.eq_zero_or_pos l.length with h0|h0
 ·obtain⟨A',c',hv,h1,h2⟩:=Jv h;injection hv with e1 e2 e3;subst e3;exact fun V _=>⟨h1,h2,fun hl=>absurd hl Ua⟩
 ·obtain⟨g,c',hv,hg,am,h1,h2,hc⟩:=Kc h h0;injection hv with e1 e2 e3;subst e1 e3;refine fun V hV=>⟨h1,h2,fun _=>⟨g,0,rfl,fun k v hk=>?_⟩⟩;have ha:=fun i u hu=>Jr (hV g hg am Uh) (hc _ _ (Jrh l k v hk i u hu));exact Ub1
def Khn (B:Nat) (ts:List Tk) (A:Option Addr) (cap:Nat) (W:World) (x:List Va×St) (r:Ending) (W':World):Prop:=
 (∃Al cl,r = .returned (.slice Al x.1.length cl)/\Off W.heap.size none W' (fun V=>Ju V x.1 Al cl))/\X2 B ts A cap W' x.2/\J6 (fun b=>b=B) W W'
theorem Klu (ts:List Tk) (st:St):Keo ts st (Kec ts st).2:=by
 unfold Kec;dsimp only
 split
 ·exact((Kdz _ _).trans (Kdc _ _ _)).trans (Kdl _ _ _)
 ·exact((Kdz _ _).trans (Kdc _ _ _)).trans (Kdc _ _ _)
theorem Jm4 {B:Nat} {ts:List Tk} {A:Option Addr} {cap:Nat} {st:St} {W:World} (h:X2 B ts A cap W st) (ai:ts.length<=100000) :
  Calls Tryz.prog 39 #[.pointer (some ⟨B,0,none⟩)] W (Khn B ts A cap W (Ker ts st)):=by
 have cm:=h.lt;unfold Ker;have eR:=Koc h ⟨#[40]⟩ ai;generalize Kda ts st ⟨#[40]⟩=st1 at eR ⊢
 cases h1:Kc5 ts st1 ⟨#[41]⟩
 ·dsimp only;rw [if_neg (by rw [h1];simp)];have hd:=fun W' (h':X2 B ts A cap W' st1)=>Koe h' ai;generalize Kec ts st1=D at hd ⊢;obtain⟨d,st2⟩:=D;obtain⟨R,hR⟩:∃R,R=Ke4 ts (ts.length+1) [d] st2:=⟨_,rfl⟩;dsimp only at hd ⊢;rw [<-hR];have vi:=Nf hR;clear hR h;unfold vaV at hd
  go_enter Tryz.func39,Tryz.ntmps39
  go_wp2_with (first
   | (go_at_call 37;go_loud (refine eR.mono ?_;rintro r w1 ⟨rfl,ii,cD⟩))
   | (go_at_call 18;go_loud (refine(Kdf ii h1 ai).mono ?_;rintro r w2 ⟨rfl,gL,dz⟩))
   | (go_at_call 84;go_loud (refine(hd _ gL).mono ?_;rintro r w3 ⟨rfl,ip,dU⟩)))
  have iP:=cD.trans' (dz.trans' dU)
  have eo:(w3.alloc (.cells #[.string d.name,.int .i64 d.type,.int .i64 d.ck,.string d.cn] 83)).ownsRow W.heap.size 83 4 (.slice (some ⟨w3.heap.size,0,none⟩) 1 1) 1 (Xe [d]):=by
   have:=World.ownsRow_lit (base:=W.heap.size) (e:=83) (size:=4) w3 #[.string d.name,.int .i64 d.type,.int .i64 d.ck,.string d.cn] 1 iP.size Uo rfl;simpa [Xe,vaC] using this
  go_loopg [3] (ts.length+1) (fun k sv wr=>∃l st' Al cl,sv = .slice Al l.length cl/\ts.length-st'.pos<k/\l.length+(ts.length-st'.pos)<=ts.length+1/\wr.ownsRow W.heap.size 83 4 (.slice Al l.length cl) l.length (Xe l)/\Ke4 ts k l st'=R/\X2 B ts A cap wr st'/\J6 (fun b=>b=B) W wr)
  case atStart=>exact⟨[d],st2,_,_,rfl,Ua,Ui,eo,vi.out.symm,ip.alloc _,iP.alloc _⟩
  case round=>
   obtain⟨l,st',Al,cl,rfl,hm,cY,ae,aa,wu,sT⟩:=hrel;obtain⟨k,rfl⟩:∃k,gk=k+1:=⟨gk-1,Ua⟩;rw [Ke4] at aa
   cases h2:Kc5 ts st' ⟨#[59]⟩
   ·rw [h2,if_neg Uh] at aa;have HR:=Nf aa;clear aa;have aS:=fun W' (h':X2 B ts A cap W' st')=>Koc h' ⟨#[41]⟩ ai
    go_wp2_with (first
     | (go_at_call 18;go_loud (refine(Kdf wu h2 ai).mono ?_;rintro r w4 ⟨rfl,bT,iA⟩))
     | (go_at_call 37;go_loud (refine(aS _ bT).mono ?_;rintro r w5 ⟨rfl,dv,bb⟩)))
    go_ret;rw [<-HR.out];exact⟨⟨Al,cl,rfl,Kia (Khg (Khg ae cm iA) cm bb)⟩,dv,sT.trans' (iA.trans' bb)⟩
   ·rw [h2,if_pos rfl,Kdu h2] at aa;have am:=Ket h2;have gN:=fun W' (h':X2 B ts A cap W' ⟨st'.pos+1,st'.bad⟩)=>Koe h' ai;have aG:=Klu ts ⟨st'.pos+1,st'.bad⟩;generalize Kec ts ⟨st'.pos+1,st'.bad⟩=D2 at gN aa aG;obtain⟨d2,st3⟩:=D2;have bJ:st'.pos+1<=st3.pos:=aG.1;dsimp only at gN aa;unfold vaV at gN;have HR:=Nf aa;clear aa aG
    go_wp2_with (first
     | (go_at_call 18;go_loud (refine(Kdr wu h2 ai).mono ?_;rintro r w4 ⟨rfl,bT,iA⟩))
     | (go_at_call 84;go_loud (refine(gN _ bT).mono ?_;rintro r w5 ⟨rfl,dv,bb⟩;have bX:=Khg (Khg ae cm iA) cm bb;have yx:=iA.trans' bb;have hz6:=(sT.trans' yx).size))
     | (at_builtin;go_loud (refine Z2 rfl (.tmp 19) (.tmp 22) 35 rfl W.heap.size 83 _ 4 48 Tryz.underlying35 Jc8 rfl Ua (.slice Al l.length cl) l.length (Xe l) w5.heap.size 1 1 (vaC d2) rfl (Js bX) rfl rfl (fun j u hj=>Sb) Dl Ua Ua Ui ?_;intro v6 w6 fi ue yt)))
    obtain⟨A6,c6,rfl,-,-⟩:=Jv fi
    go_roundg k
    case measure=>omega
    case rel=>exact⟨l ++ [d2],st3,A6,c6,Uh,Ua,Ui,by simpa [Xe] using fi,HR.out,(dv.alloc _).app (Js bX) cm ue,((sT.trans' yx).alloc _).app (Js bX) (Ns _) ue⟩
 ·dsimp only;rw [if_pos h1,Kdu h1];clear h
  go_enter Tryz.func39,Tryz.ntmps39
  go_wp2_with (first
   | (go_at_call 37;go_loud (refine eR.mono ?_;rintro r w1 ⟨rfl,ii,cD⟩))
   | (go_at_call 18;go_loud (refine(Kdr ii h1 ai).mono ?_;rintro r w2 ⟨rfl,gL,dz⟩)))
  go_ret;exact⟨⟨none,0,rfl,Kex _ _ fun V=>⟨Ns _,Uo,fun h=>absurd h Uh⟩⟩,gL,cD.trans' dz⟩
theorem X2.back {B:Nat} {ts:List Tk} {A:Option Addr} {cap:Nat} {W:World} {st:St} (h:X2 B ts A cap W st) (n:Nat) (b:Bool) (hn:n<=ts.length) :
  X2 B ts A cap (((W.setCell ⟨B,0,none⟩ (.slice A ts.length cap)).setCell ⟨B,1,none⟩ (.int .i64 n)).setCell ⟨B,2,none⟩ (.bool b)) ⟨n,b⟩:=by
 obtain⟨h0,h1,h2⟩:=Jp5 (.slice A ts.length cap) (.int .i64 n) (.bool b) h.c0 h.c1 h.c2;exact⟨h0,h1,h2,(Jev ..).trans h.f1,(Jev ..).trans h.f2,(Jev ..).trans h.f0,Kgw h.toks _ ((((J6.refl (S:=fun b=>b=B) W).setCell (b:=B) rfl _ _).setCell (b:=B) rfl _ _).setCell (b:=B) rfl _ _),hn⟩
theorem X2.posS {B:Nat} {ts:List Tk} {A:Option Addr} {cap:Nat} {W:World} {st:St} (h:X2 B ts A cap W st) (hn:st.pos+1<=ts.length):X2 B ts A cap (W.setCell ⟨B,1,none⟩ (.int .i64 ((st.pos:Int)+1))) ⟨st.pos+1,st.bad⟩:=h.pos _ hn
theorem Kn3 {base b1 c gi:Nat} {w:World} {k n:Int} {nm:ByteArray} {x:Ex} {a:Option Addr} {ca:Nat} {t:TypeId} {v0 v1 v2 v3:Value} (hgi:gi=w.heap.size) (h:Off b1 none w (fun V=>Jt V x a ca)) (hb:base<=b1) (hc:c<b1) (hw:base<=w.heap.size) :
  Off base none ((Kel w c v0 v1 v2 v3).alloc (.cells #[.int .i64 x.kind,.int .i32 x.n,.string x.name,.slice a x.sub.length ca] t)) (fun V=>Jt V (.mk k n nm [x]) (some ⟨gi,0,none⟩) 1):=by
 subst hgi;exact Kk1 h hb hc hw
def Kf4 (B:Nat) (ts:List Tk) (A:Option Addr) (cap:Nat) (W:World) (st:St) (x:Option (Ex×St)) (r:Ending) (W':World):Prop:=
 (match x with
  | none=>r = .returned (.tuple #[exV Ex.zero none 0,.bool false])/\X2 B ts A cap W' st
  | some y=>(∃Ax cx,r = .returned (.tuple #[exV y.1 Ax cx,.bool true])/\Off W.heap.size none W' (fun V=>Jt V y.1 Ax cx))/\X2 B ts A cap W' y.2)/\J6 (fun b=>b=B) W W'
theorem Kmf {B:Nat} {ts:List Tk} {A:Option Addr} {cap:Nat} {st:St} {W:World} (h:X2 B ts A cap W st) (ai:ts.length<=100000) (h0:((Kc7 ts (Kc6 ts st ⟨#[45]⟩)).getD tkZ).kind=2) (am:(Kc6 ts st ⟨#[45]⟩).pos<ts.length) :
  Calls Tryz.prog 42 #[.pointer (some ⟨B,0,none⟩)] W (Kf4 B ts A cap W st (Kem ts st)):=by
 have cm:=h.lt;have nn:=h.le;have aS:W.heap.size≠B:=Ua;have kp:W.heap.size+1≠B:=Ua;have aP:=fun W' (h':X2 B ts A cap W' st)=>Kfh h' ⟨#[45]⟩ ai
 have hv:Kem ts st=if Kc5 ts ⟨(Kc6 ts st ⟨#[45]⟩).pos+1,(Kc6 ts st ⟨#[45]⟩).bad⟩ ⟨#[102,98,121]⟩=true then some (if Kc5 ts st ⟨#[45]⟩=true then .mk 4 1 ⟨#[]⟩ [.mk 1 ((Kc7 ts (Kc6 ts st ⟨#[45]⟩)).getD tkZ).n ⟨#[]⟩ []] else .mk 1 ((Kc7 ts (Kc6 ts st ⟨#[45]⟩)).getD tkZ).n ⟨#[]⟩ [],Kc6 ts ⟨(Kc6 ts st ⟨#[45]⟩).pos+1,(Kc6 ts st ⟨#[45]⟩).bad⟩ ⟨#[102,98,121]⟩) else none:=by
  unfold Kem Kfx;rw [if_pos h0]
 rw [hv];clear hv;generalize Kc5 ts st ⟨#[45]⟩=m at aP ⊢;generalize Kc6 ts st ⟨#[45]⟩=st1 at aP h0 am ⊢;have qU:=fun W' (h':X2 B ts A cap W' st1)=>Kej h';generalize (Kc7 ts st1).getD tkZ=t at qU h0 ⊢;generalize (Kc7 ts st1).isSome=o at qU;obtain⟨tk,tx,tn,tp⟩:=t;unfold tkV at qU;dsimp only at qU h0 ⊢;have t2:(tk == 2)=true:=by rw [h0];rfl
 have h00:=h.c0;have h01:=h.c1;have h02:=h.c2;have HP:=Nf h;clear h h0
 cases hf:Kc5 ts ⟨st1.pos+1,st1.bad⟩ ⟨#[102,98,121]⟩
 ·rw [if_neg Uh]
  cases m <;>
  ·go_enter Tryz.func42,Tryz.ntmps42
   go_wp2_with (first
    | (go_at_call_of 18 (Value.string ⟨#[45]⟩);go_loud (refine(aP _ ((HP.out.alloc _).alloc _)).mono ?_;rintro r w1 ⟨rfl,ii,cD⟩;have af:=cD.size;(try simp at af);have er:w1.heap.size≠B:=Ua;have xU:=ii.c1;have ew:=ii.f1;have hBx:=ii.lt))
    | (go_at_call 85;go_loud (refine(qU _ (ii.alloc _)).mono ?_;rintro r w2 ⟨rfl,aq⟩;have gL:=(ii.alloc (.cells #[.int .i64 2,.int .i32 0,.string ⟨#[]⟩,.slice none 0 0] 73)).later aq;have br:=aq.size;(try simp at br);have iJ:=(J6.bel (S:=fun b=>b=B) aq);have dz:=cD.trans' (K2 iJ);have aW:=K1 dz;have bS:=kfz dz;have el:=Jg aq;have mJ:=Jf aq;have dG:=lt0 W w2;have cA:=ltA W 1 w2;have kh:=lt0 w1 w2;have uj:B<w2.heap.size:=Ua))
    | (go_at_call_of 18 (Value.string ⟨#[102,98,121]⟩);go_loud (have ip:=((gL.beyond4 (c:=w1.heap.size) Ua (.int .i64 1) (.int .i32 tn) (.string ⟨#[]⟩) (.slice none 0 0)).posS Ua).alloc (.cells #[.int .i64 tk,.string tx,.int .i32 tn,.int .i64 tp] 103);refine(Kdf ip hf ai).mono ?_;rintro r w4 ⟨rfl,bT,iA⟩;have cB:=bT.c0;have jK:=bT.c1;have et:=bT.c2;have jo:=bT.f0;have hfg:=bT.f1;have hfh:=bT.f2;have bn:=(((dz.fresh4 (c:=w1.heap.size) Ui _ _ _ _).setCell (b:=B) rfl _ _).alloc _).trans' iA;have hkY:=K2 (K2 bn);have bv:=K1 bn;have hfz4:=kfz bn;have qS:=iA.size;(try simp at qS);have ns:=lt0 w2 w4;have us:=lt0 W w4;have va:=ltA W 1 w4;have hy4c:=lt0 w1 w4;have gu:B<w4.heap.size:=Ua;have z0:=Na w4 W.heap.size 0 0 ((bv _ _ aS Ui).trans Uc);have z1:=Nb w4 W.heap.size 1 (.int .i32 0) ((bv _ _ aS Ui).trans Uc);have z2:=Nb w4 W.heap.size 2 (.string ⟨#[]⟩) ((bv _ _ aS Ui).trans Uc);have z3:=Nb w4 W.heap.size 3 (.slice none 0 0) ((bv _ _ aS Ui).trans Uc))))
   exact B6
 ·rw [if_pos rfl,Kdu hf]
  cases m
  ·rw [if_neg Uh]
   go_enter Tryz.func42,Tryz.ntmps42
   go_wp2_with (first
    | (go_at_call_of 18 (Value.string ⟨#[45]⟩);go_loud (refine(aP _ ((HP.out.alloc _).alloc _)).mono ?_;rintro r w1 ⟨rfl,ii,cD⟩;have af:=cD.size;(try simp at af);have er:w1.heap.size≠B:=Ua;have xU:=ii.c1;have ew:=ii.f1;have hBx:=ii.lt))
    | (go_at_call 85;go_loud (refine(qU _ (ii.alloc _)).mono ?_;rintro r w2 ⟨rfl,aq⟩;have gL:=(ii.alloc (.cells #[.int .i64 2,.int .i32 0,.string ⟨#[]⟩,.slice none 0 0] 73)).later aq;have br:=aq.size;(try simp at br);have iJ:=(J6.bel (S:=fun b=>b=B) aq);have dz:=cD.trans' (K2 iJ);have aW:=K1 dz;have bS:=kfz dz;have el:=Jg aq;have mJ:=Jf aq;have dG:=lt0 W w2;have cA:=ltA W 1 w2;have kh:=lt0 w1 w2;have uj:B<w2.heap.size:=Ua))
    | (go_at_call_of 18 (Value.string ⟨#[102,98,121]⟩);go_loud (have ip:=((gL.beyond4 (c:=w1.heap.size) Ua (.int .i64 1) (.int .i32 tn) (.string ⟨#[]⟩) (.slice none 0 0)).posS Ua).alloc (.cells #[.int .i64 tk,.string tx,.int .i32 tn,.int .i64 tp] 103);refine(Kdr ip hf ai).mono ?_;rintro r w4 ⟨rfl,bT,iA⟩;have cB:=bT.c0;have jK:=bT.c1;have et:=bT.c2;have jo:=bT.f0;have hfg:=bT.f1;have hfh:=bT.f2;have bn:=(((dz.fresh4 (c:=w1.heap.size) Ui _ _ _ _).setCell (b:=B) rfl _ _).alloc _).trans' iA;have hkY:=K2 (K2 bn);have g0:=Na w4 w1.heap.size 0 1 ((K1 iA _ _ er Ui).trans Uc);have g1:=Nb w4 w1.heap.size 1 (.int .i32 tn) ((K1 iA _ _ er Ui).trans Uc);have g2:=Nb w4 w1.heap.size 2 (.string ⟨#[]⟩) ((K1 iA _ _ er Ui).trans Uc);have g3:=Nb w4 w1.heap.size 3 (.slice none 0 0) ((K1 iA _ _ er Ui).trans Uc);have gf:∀o,w4.frozen? ⟨w1.heap.size,o,none⟩=false:=fun o=>(kfz iA _ _ er Ui).trans Uc;have bv:=K1 bn;have hfz4:=kfz bn;have qS:=iA.size;(try simp at qS);have ns:=lt0 w2 w4;have us:=lt0 W w4;have va:=ltA W 1 w4;have hy4c:=lt0 w1 w4;have gu:B<w4.heap.size:=Ua;have z0:=Na w4 W.heap.size 0 0 ((bv _ _ aS Ui).trans Uc);have z1:=Nb w4 W.heap.size 1 (.int .i32 0) ((bv _ _ aS Ui).trans Uc);have z2:=Nb w4 W.heap.size 2 (.string ⟨#[]⟩) ((bv _ _ aS Ui).trans Uc);have z3:=Nb w4 W.heap.size 3 (.slice none 0 0) ((bv _ _ aS Ui).trans Uc))))
   refine Nv (v:= .tuple #[exV (.mk 1 tn ⟨#[]⟩ []) none 0,.bool true]) Vv rfl ?_;exact Ubo
  ·rw [if_pos rfl]
   go_enter Tryz.func42,Tryz.ntmps42
   go_wp2_with (first
    | (go_at_call_of 18 (Value.string ⟨#[45]⟩);go_loud (refine(aP _ ((HP.out.alloc _).alloc _)).mono ?_;rintro r w1 ⟨rfl,ii,cD⟩;have af:=cD.size;(try simp at af);have er:w1.heap.size≠B:=Ua;have xU:=ii.c1;have ew:=ii.f1;have hBx:=ii.lt))
    | (go_at_call 85;go_loud (refine(qU _ (ii.alloc _)).mono ?_;rintro r w2 ⟨rfl,aq⟩;have gL:=(ii.alloc (.cells #[.int .i64 2,.int .i32 0,.string ⟨#[]⟩,.slice none 0 0] 73)).later aq;have br:=aq.size;(try simp at br);have iJ:=(J6.bel (S:=fun b=>b=B) aq);have dz:=cD.trans' (K2 iJ);have aW:=K1 dz;have bS:=kfz dz;have el:=Jg aq;have mJ:=Jf aq;have dG:=lt0 W w2;have cA:=ltA W 1 w2;have kh:=lt0 w1 w2;have uj:B<w2.heap.size:=Ua))
    | (go_at_call_of 18 (Value.string ⟨#[102,98,121]⟩);go_loud (have ip:=((gL.beyond4 (c:=w1.heap.size) Ua (.int .i64 1) (.int .i32 tn) (.string ⟨#[]⟩) (.slice none 0 0)).posS Ua).alloc (.cells #[.int .i64 tk,.string tx,.int .i32 tn,.int .i64 tp] 103);refine(Kdr ip hf ai).mono ?_;rintro r w4 ⟨rfl,bT,iA⟩;have cB:=bT.c0;have jK:=bT.c1;have et:=bT.c2;have jo:=bT.f0;have hfg:=bT.f1;have hfh:=bT.f2;have bn:=(((dz.fresh4 (c:=w1.heap.size) Ui _ _ _ _).setCell (b:=B) rfl _ _).alloc _).trans' iA;have hkY:=K2 (K2 bn);have g0:=Na w4 w1.heap.size 0 1 ((K1 iA _ _ er Ui).trans Uc);have g1:=Nb w4 w1.heap.size 1 (.int .i32 tn) ((K1 iA _ _ er Ui).trans Uc);have g2:=Nb w4 w1.heap.size 2 (.string ⟨#[]⟩) ((K1 iA _ _ er Ui).trans Uc);have g3:=Nb w4 w1.heap.size 3 (.slice none 0 0) ((K1 iA _ _ er Ui).trans Uc);have gf:∀o,w4.frozen? ⟨w1.heap.size,o,none⟩=false:=fun o=>(kfz iA _ _ er Ui).trans Uc;have bv:=K1 bn;have hfz4:=kfz bn;have qS:=iA.size;(try simp at qS);have ns:=lt0 w2 w4;have us:=lt0 W w4;have va:=ltA W 1 w4;have hy4c:=lt0 w1 w4;have gu:B<w4.heap.size:=Ua;have z0:=Na w4 W.heap.size 0 0 ((bv _ _ aS Ui).trans Uc);have z1:=Nb w4 W.heap.size 1 (.int .i32 0) ((bv _ _ aS Ui).trans Uc);have z2:=Nb w4 W.heap.size 2 (.string ⟨#[]⟩) ((bv _ _ aS Ui).trans Uc);have z3:=Nb w4 W.heap.size 3 (.slice none 0 0) ((bv _ _ aS Ui).trans Uc))))
   refine Nv (v:= .tuple #[exV (.mk 4 1 ⟨#[]⟩ [.mk 1 tn ⟨#[]⟩ []]) (some ⟨w4.heap.size,0,none⟩) 1,.bool true]) Vv rfl ?_;refine⟨⟨⟨some ⟨w4.heap.size,0,none⟩,1,rfl,?_⟩,Kga (Kd0 bT Ua _ _ _ _) cm _ _ _ _ _⟩,Kfp (Kdp hkY Ua _ _ _ _) (Ns _) _ _ _ _ _⟩;exact Kn3 (x:= .mk 1 tn ⟨#[]⟩ []) (a:=none) (ca:=0) (b1:=W.heap.size+1) (by rw [Keq]) (Kex _ _ fun V=>Ke2 V Uo) Ua Ua S3
theorem Kkd {B:Nat} {ts:List Tk} {A:Option Addr} {cap:Nat} {st st1:St} {W:World} (h:X2 B ts A cap W st) (h0:((Kc7 ts st1).getD tkZ).kind≠2)
  (aP:∀W',X2 B ts A cap W' st->Calls Tryz.prog 18 #[.pointer (some ⟨B,0,none⟩),.string ⟨#[45]⟩] W' (Keu B ts A cap W' (.bool true) st1)) :
  Calls Tryz.prog 42 #[.pointer (some ⟨B,0,none⟩)] W (Kf4 B ts A cap W st none):=by
 have cm:=h.lt;have nn:=h.le;have aS:W.heap.size≠B:=Ua;have kp:W.heap.size+1≠B:=Ua;have qU:=fun W' (h':X2 B ts A cap W' st1)=>Kej h';generalize (Kc7 ts st1).getD tkZ=t at qU h0;generalize (Kc7 ts st1).isSome=o at qU;obtain⟨tk,tx,tn,tp⟩:=t;unfold tkV at qU;dsimp only at qU h0;have t2:(tk == 2)=false:=Lv;have h00:=h.c0;have h01:=h.c1;have h02:=h.c2;have HP:=Nf h;clear h h0
 go_enter Tryz.func42,Tryz.ntmps42
 go_wp2_with (first
  | (go_at_call_of 18 (Value.string ⟨#[45]⟩);go_loud (refine(aP _ ((HP.out.alloc _).alloc _)).mono ?_;rintro r w1 ⟨rfl,ii,cD⟩;have af:=cD.size;(try simp at af);have er:w1.heap.size≠B:=Ua))
  | (go_at_call 85;go_loud (refine(qU _ (ii.alloc _)).mono ?_;rintro r w4 ⟨rfl,aq⟩;have bT:=(ii.alloc (.cells #[.int .i64 2,.int .i32 0,.string ⟨#[]⟩,.slice none 0 0] 73)).later aq;have bn:=cD.trans' (K2 (J6.bel (S:=fun b=>b=B) aq));have hkY:=K2 (K2 bn);have cB:=bT.c0;have jK:=bT.c1;have et:=bT.c2;have jo:=bT.f0;have hfg:=bT.f1;have hfh:=bT.f2;have bv:=K1 bn;have hfz4:=kfz bn;have br:=aq.size;(try simp at br);have dG:=lt0 W w4;have cA:=ltA W 1 w4;have kh:=lt0 w1 w4;have uj:B<w4.heap.size:=Ua;have z0:=Na w4 W.heap.size 0 0 ((bv _ _ aS Ui).trans Uc);have z1:=Nb w4 W.heap.size 1 (.int .i32 0) ((bv _ _ aS Ui).trans Uc);have z2:=Nb w4 W.heap.size 2 (.string ⟨#[]⟩) ((bv _ _ aS Ui).trans Uc);have z3:=Nb w4 W.heap.size 3 (.slice none 0 0) ((bv _ _ aS Ui).trans Uc))))
 refine Nv (v:= .tuple #[exV Ex.zero none 0,.bool false]) Vc rfl ?_;exact⟨⟨rfl,Kga (bT.back _ _ nn) cm _ _ _ _ _⟩,Kfp ((((hkY.setCell (b:=B) rfl _ _).setCell (b:=B) rfl _ _).setCell (b:=B) rfl _ _)) (Ns _) _ _ _ _ _⟩
theorem Kof {B:Nat} {ts:List Tk} {A:Option Addr} {cap:Nat} {st st1:St} {W:World} (h:X2 B ts A cap W st) (ai:ts.length<=100000) (h0:((Kc7 ts st1).getD tkZ).kind≠2)
  (aP:∀W',X2 B ts A cap W' st->Calls Tryz.prog 18 #[.pointer (some ⟨B,0,none⟩),.string ⟨#[45]⟩] W' (Keu B ts A cap W' (.bool false) st1)) (h1:Kc5 ts st1 ⟨#[116,114,117,101]⟩=false) (h2:Kc5 ts st1 ⟨#[102,97,108,115,101]⟩=false) :
  Calls Tryz.prog 42 #[.pointer (some ⟨B,0,none⟩)] W (Kf4 B ts A cap W st none):=by
 have cm:=h.lt;have nn:=h.le;have aS:W.heap.size≠B:=Ua;have kp:W.heap.size+1≠B:=Ua;have qU:=fun W' (h':X2 B ts A cap W' st1)=>Kej h';generalize (Kc7 ts st1).getD tkZ=t at qU h0;generalize (Kc7 ts st1).isSome=o at qU;obtain⟨tk,tx,tn,tp⟩:=t;unfold tkV at qU;dsimp only at qU h0;have t2:(tk == 2)=false:=Lv;have h00:=h.c0;have h01:=h.c1;have h02:=h.c2;have HP:=Nf h;clear h h0
 go_enter Tryz.func42,Tryz.ntmps42
 go_wp2_with (first
  | (go_at_call_of 18 (Value.string ⟨#[45]⟩);go_loud (refine(aP _ ((HP.out.alloc _).alloc _)).mono ?_;rintro r w1 ⟨rfl,ii,cD⟩;have af:=cD.size;(try simp at af);have er:w1.heap.size≠B:=Ua;have xU:=ii.c1;have ew:=ii.f1;have hBx:=ii.lt))
  | (go_at_call 85;go_loud (refine(qU _ (ii.alloc _)).mono ?_;rintro r w2 ⟨rfl,aq⟩;have gL:=(ii.alloc (.cells #[.int .i64 2,.int .i32 0,.string ⟨#[]⟩,.slice none 0 0] 73)).later aq;have br:=aq.size;(try simp at br);have iJ:=(J6.bel (S:=fun b=>b=B) aq);have dz:=cD.trans' (K2 iJ);have aW:=K1 dz;have bS:=kfz dz;have el:=Jg aq;have mJ:=Jf aq;have dG:=lt0 W w2;have cA:=ltA W 1 w2;have kh:=lt0 w1 w2;have uj:B<w2.heap.size:=Ua))
  | (go_at_call_of 18 (Value.string ⟨#[116,114,117,101]⟩);go_loud (refine(Kdf (gL.alloc _) h1 ai).mono ?_;rintro r w3 ⟨rfl,ip,dU⟩))
  | (go_at_call_of 18 (Value.string ⟨#[102,97,108,115,101]⟩);go_loud (refine(Kdf ip h2 ai).mono ?_;rintro r w4 ⟨rfl,bT,iA⟩;have bn:=dz.trans' ((K2 dU).trans' iA);replace br:=And.intro br dU.size;(try simp at br);have cB:=bT.c0;have jK:=bT.c1;have et:=bT.c2;have jo:=bT.f0;have hfg:=bT.f1;have hfh:=bT.f2;have hkY:=K2 (K2 bn);have bv:=K1 bn;have hfz4:=kfz bn;have qS:=iA.size;(try simp at qS);have ns:=lt0 w2 w4;have us:=lt0 W w4;have va:=ltA W 1 w4;have hy4c:=lt0 w1 w4;have gu:B<w4.heap.size:=Ua;have z0:=Na w4 W.heap.size 0 0 ((bv _ _ aS Ui).trans Uc);have z1:=Nb w4 W.heap.size 1 (.int .i32 0) ((bv _ _ aS Ui).trans Uc);have z2:=Nb w4 W.heap.size 2 (.string ⟨#[]⟩) ((bv _ _ aS Ui).trans Uc);have z3:=Nb w4 W.heap.size 3 (.slice none 0 0) ((bv _ _ aS Ui).trans Uc))))
 refine Nv (v:= .tuple #[exV Ex.zero none 0,.bool false]) Vc rfl ?_;exact⟨⟨rfl,Kd0 (bT.back _ _ nn) cm _ _ _ _⟩,Kdp ((((hkY.setCell (b:=B) rfl _ _).setCell (b:=B) rfl _ _).setCell (b:=B) rfl _ _)) (Ns _) _ _ _ _⟩
theorem Klj {B:Nat} {ts:List Tk} {A:Option Addr} {cap:Nat} {st st1:St} {W:World} (h:X2 B ts A cap W st) (ai:ts.length<=100000) (h0:((Kc7 ts st1).getD tkZ).kind≠2)
  (aP:∀W',X2 B ts A cap W' st->Calls Tryz.prog 18 #[.pointer (some ⟨B,0,none⟩),.string ⟨#[45]⟩] W' (Keu B ts A cap W' (.bool false) st1)) (h1:Kc5 ts st1 ⟨#[116,114,117,101]⟩=true) :
  Calls Tryz.prog 42 #[.pointer (some ⟨B,0,none⟩)] W (Kf4 B ts A cap W st (if Kc5 ts ⟨st1.pos+1,st1.bad⟩ ⟨#[102,98,121]⟩=true then some (.mk 2 1 ⟨#[]⟩ [],⟨st1.pos+1+1,st1.bad⟩) else none)):=by
 have cm:=h.lt;have nn:=h.le;have aS:W.heap.size≠B:=Ua;have kp:W.heap.size+1≠B:=Ua;have qU:=fun W' (h':X2 B ts A cap W' st1)=>Kej h';generalize (Kc7 ts st1).getD tkZ=t at qU h0;generalize (Kc7 ts st1).isSome=o at qU;obtain⟨tk,tx,tn,tp⟩:=t;unfold tkV at qU;dsimp only at qU h0;have t2:(tk == 2)=false:=Lv;have h00:=h.c0;have h01:=h.c1;have h02:=h.c2;have HP:=Nf h;clear h h0
 cases hf:Kc5 ts ⟨st1.pos+1,st1.bad⟩ ⟨#[102,98,121]⟩
 ·rw [if_neg Uh]
  go_enter Tryz.func42,Tryz.ntmps42
  go_wp2_with (first
   | (go_at_call_of 18 (Value.string ⟨#[45]⟩);go_loud (refine(aP _ ((HP.out.alloc _).alloc _)).mono ?_;rintro r w1 ⟨rfl,ii,cD⟩;have af:=cD.size;(try simp at af);have er:w1.heap.size≠B:=Ua;have xU:=ii.c1;have ew:=ii.f1;have hBx:=ii.lt))
   | (go_at_call 85;go_loud (refine(qU _ (ii.alloc _)).mono ?_;rintro r w2 ⟨rfl,aq⟩;have gL:=(ii.alloc (.cells #[.int .i64 2,.int .i32 0,.string ⟨#[]⟩,.slice none 0 0] 73)).later aq;have br:=aq.size;(try simp at br);have iJ:=(J6.bel (S:=fun b=>b=B) aq);have dz:=cD.trans' (K2 iJ);have aW:=K1 dz;have bS:=kfz dz;have el:=Jg aq;have mJ:=Jf aq;have dG:=lt0 W w2;have cA:=ltA W 1 w2;have kh:=lt0 w1 w2;have uj:B<w2.heap.size:=Ua))
   | (go_at_call_of 18 (Value.string ⟨#[116,114,117,101]⟩);go_loud (refine(Kdr (gL.alloc _) h1 ai).mono ?_;rintro r w3 ⟨rfl,ip,dU⟩;have kE:=K1 dU;have tx:=kfz dU;have fe:=dU.size;(try simp at fe);have ly:=lt0 w1 w3;have qA:=lt0 w2 w3))
   | (go_at_call_of 18 (Value.string ⟨#[102,98,121]⟩);go_loud (refine(Kdf (ip.beyond (c:=w1.heap.size) Ua 1 (.int .i32 1)) hf ai).mono ?_;rintro r w4 ⟨rfl,bT,iA⟩;have bn:=((dz.trans' (K2 dU)).fresh (c:=w1.heap.size) Ui _ _).trans' iA;have cB:=bT.c0;have jK:=bT.c1;have et:=bT.c2;have jo:=bT.f0;have hfg:=bT.f1;have hfh:=bT.f2;have hkY:=K2 (K2 bn);have bv:=K1 bn;have hfz4:=kfz bn;have qS:=iA.size;(try simp at qS);have ns:=lt0 w2 w4;have us:=lt0 W w4;have va:=ltA W 1 w4;have hy4c:=lt0 w1 w4;have gu:B<w4.heap.size:=Ua;have z0:=Na w4 W.heap.size 0 0 ((bv _ _ aS Ui).trans Uc);have z1:=Nb w4 W.heap.size 1 (.int .i32 0) ((bv _ _ aS Ui).trans Uc);have z2:=Nb w4 W.heap.size 2 (.string ⟨#[]⟩) ((bv _ _ aS Ui).trans Uc);have z3:=Nb w4 W.heap.size 3 (.slice none 0 0) ((bv _ _ aS Ui).trans Uc))))
  exact B6
 ·rw [if_pos rfl]
  go_enter Tryz.func42,Tryz.ntmps42
  go_wp2_with (first
   | (go_at_call_of 18 (Value.string ⟨#[45]⟩);go_loud (refine(aP _ ((HP.out.alloc _).alloc _)).mono ?_;rintro r w1 ⟨rfl,ii,cD⟩;have af:=cD.size;(try simp at af);have er:w1.heap.size≠B:=Ua;have xU:=ii.c1;have ew:=ii.f1;have hBx:=ii.lt))
   | (go_at_call 85;go_loud (refine(qU _ (ii.alloc _)).mono ?_;rintro r w2 ⟨rfl,aq⟩;have gL:=(ii.alloc (.cells #[.int .i64 2,.int .i32 0,.string ⟨#[]⟩,.slice none 0 0] 73)).later aq;have br:=aq.size;(try simp at br);have iJ:=(J6.bel (S:=fun b=>b=B) aq);have dz:=cD.trans' (K2 iJ);have aW:=K1 dz;have bS:=kfz dz;have el:=Jg aq;have mJ:=Jf aq;have dG:=lt0 W w2;have cA:=ltA W 1 w2;have kh:=lt0 w1 w2;have uj:B<w2.heap.size:=Ua))
   | (go_at_call_of 18 (Value.string ⟨#[116,114,117,101]⟩);go_loud (refine(Kdr (gL.alloc _) h1 ai).mono ?_;rintro r w3 ⟨rfl,ip,dU⟩;have kE:=K1 dU;have tx:=kfz dU;have fe:=dU.size;(try simp at fe);have ly:=lt0 w1 w3;have qA:=lt0 w2 w3))
   | (go_at_call_of 18 (Value.string ⟨#[102,98,121]⟩);go_loud (refine(Kdr (ip.beyond (c:=w1.heap.size) Ua 1 (.int .i32 1)) hf ai).mono ?_;rintro r w4 ⟨rfl,bT,iA⟩;have bn:=((dz.trans' (K2 dU)).fresh (c:=w1.heap.size) Ui _ _).trans' iA;have g0:=Na w4 w1.heap.size 0 2 ((K1 iA _ _ er Ui).trans Uc);have gq:=Nb w3 w1.heap.size 1 (.int .i32 0) ((K1 dU _ _ er Ui).trans Uc);have g1:=Nb w4 w1.heap.size 1 (.int .i32 1) ((K1 iA _ _ er Ui).trans (Nx _ _ _ gq));have g2:=Nb w4 w1.heap.size 2 (.string ⟨#[]⟩) ((K1 iA _ _ er Ui).trans Uc);have g3:=Nb w4 w1.heap.size 3 (.slice none 0 0) ((K1 iA _ _ er Ui).trans Uc);have cB:=bT.c0;have jK:=bT.c1;have et:=bT.c2;have jo:=bT.f0;have hfg:=bT.f1;have hfh:=bT.f2;have hkY:=K2 (K2 bn);have bv:=K1 bn;have hfz4:=kfz bn;have qS:=iA.size;(try simp at qS);have ns:=lt0 w2 w4;have us:=lt0 W w4;have va:=ltA W 1 w4;have hy4c:=lt0 w1 w4;have gu:B<w4.heap.size:=Ua;have z0:=Na w4 W.heap.size 0 0 ((bv _ _ aS Ui).trans Uc);have z1:=Nb w4 W.heap.size 1 (.int .i32 0) ((bv _ _ aS Ui).trans Uc);have z2:=Nb w4 W.heap.size 2 (.string ⟨#[]⟩) ((bv _ _ aS Ui).trans Uc);have z3:=Nb w4 W.heap.size 3 (.slice none 0 0) ((bv _ _ aS Ui).trans Uc))))
  refine Nv (v:= .tuple #[exV (.mk 2 1 ⟨#[]⟩ []) none 0,.bool true]) Vv rfl ?_;exact Ubo
theorem Kkj {B:Nat} {ts:List Tk} {A:Option Addr} {cap:Nat} {st st1:St} {W:World} (h:X2 B ts A cap W st) (ai:ts.length<=100000) (h0:((Kc7 ts st1).getD tkZ).kind≠2)
  (aP:∀W',X2 B ts A cap W' st->Calls Tryz.prog 18 #[.pointer (some ⟨B,0,none⟩),.string ⟨#[45]⟩] W' (Keu B ts A cap W' (.bool false) st1)) (h1:Kc5 ts st1 ⟨#[116,114,117,101]⟩=false) (h2:Kc5 ts st1 ⟨#[102,97,108,115,101]⟩=true) :
  Calls Tryz.prog 42 #[.pointer (some ⟨B,0,none⟩)] W (Kf4 B ts A cap W st (if Kc5 ts ⟨st1.pos+1,st1.bad⟩ ⟨#[102,98,121]⟩=true then some (.mk 2 0 ⟨#[]⟩ [],⟨st1.pos+1+1,st1.bad⟩) else none)):=by
 have cm:=h.lt;have nn:=h.le;have aS:W.heap.size≠B:=Ua;have kp:W.heap.size+1≠B:=Ua;have qU:=fun W' (h':X2 B ts A cap W' st1)=>Kej h';generalize (Kc7 ts st1).getD tkZ=t at qU h0;generalize (Kc7 ts st1).isSome=o at qU;obtain⟨tk,tx,tn,tp⟩:=t;unfold tkV at qU;dsimp only at qU h0;have t2:(tk == 2)=false:=Lv;have h00:=h.c0;have h01:=h.c1;have h02:=h.c2;have HP:=Nf h;clear h h0
 cases hf:Kc5 ts ⟨st1.pos+1,st1.bad⟩ ⟨#[102,98,121]⟩
 ·rw [if_neg Uh]
  go_enter Tryz.func42,Tryz.ntmps42
  go_wp2_with (first
   | (go_at_call_of 18 (Value.string ⟨#[45]⟩);go_loud (refine(aP _ ((HP.out.alloc _).alloc _)).mono ?_;rintro r w1 ⟨rfl,ii,cD⟩;have af:=cD.size;(try simp at af);have er:w1.heap.size≠B:=Ua;have xU:=ii.c1;have ew:=ii.f1;have hBx:=ii.lt))
   | (go_at_call 85;go_loud (refine(qU _ (ii.alloc _)).mono ?_;rintro r w2 ⟨rfl,aq⟩;have gL:=(ii.alloc (.cells #[.int .i64 2,.int .i32 0,.string ⟨#[]⟩,.slice none 0 0] 73)).later aq;have br:=aq.size;(try simp at br);have iJ:=(J6.bel (S:=fun b=>b=B) aq);have dz:=cD.trans' (K2 iJ);have aW:=K1 dz;have bS:=kfz dz;have el:=Jg aq;have mJ:=Jf aq;have dG:=lt0 W w2;have cA:=ltA W 1 w2;have kh:=lt0 w1 w2;have uj:B<w2.heap.size:=Ua))
   | (go_at_call_of 18 (Value.string ⟨#[116,114,117,101]⟩);go_loud (refine(Kdf (gL.alloc _) h1 ai).mono ?_;rintro r w3 ⟨rfl,ip,dU⟩))
   | (go_at_call_of 18 (Value.string ⟨#[102,97,108,115,101]⟩);go_loud (refine(Kdr ip h2 ai).mono ?_;rintro r w5 ⟨rfl,dv,bb⟩;have yx:=bb.size))
   | (go_at_call_of 18 (Value.string ⟨#[102,98,121]⟩);go_loud (refine(Kdf dv hf ai).mono ?_;rintro r w4 ⟨rfl,bT,iA⟩;have bn:=dz.trans' ((K2 dU).trans' (bb.trans' iA));replace br:=And.intro br (Nat.le_trans dU.size yx);(try simp at br);have cB:=bT.c0;have jK:=bT.c1;have et:=bT.c2;have jo:=bT.f0;have hfg:=bT.f1;have hfh:=bT.f2;have hkY:=K2 (K2 bn);have bv:=K1 bn;have hfz4:=kfz bn;have qS:=iA.size;(try simp at qS);have ns:=lt0 w2 w4;have us:=lt0 W w4;have va:=ltA W 1 w4;have hy4c:=lt0 w1 w4;have gu:B<w4.heap.size:=Ua;have z0:=Na w4 W.heap.size 0 0 ((bv _ _ aS Ui).trans Uc);have z1:=Nb w4 W.heap.size 1 (.int .i32 0) ((bv _ _ aS Ui).trans Uc);have z2:=Nb w4 W.heap.size 2 (.string ⟨#[]⟩) ((bv _ _ aS Ui).trans Uc);have z3:=Nb w4 W.heap.size 3 (.slice none 0 0) ((bv _ _ aS Ui).trans Uc))))
  exact B6
 ·rw [if_pos rfl]
  go_enter Tryz.func42,Tryz.ntmps42
  go_wp2_with (first
   | (go_at_call_of 18 (Value.string ⟨#[45]⟩);go_loud (refine(aP _ ((HP.out.alloc _).alloc _)).mono ?_;rintro r w1 ⟨rfl,ii,cD⟩;have af:=cD.size;(try simp at af);have er:w1.heap.size≠B:=Ua;have xU:=ii.c1;have ew:=ii.f1;have hBx:=ii.lt))
   | (go_at_call 85;go_loud (refine(qU _ (ii.alloc _)).mono ?_;rintro r w2 ⟨rfl,aq⟩;have gL:=(ii.alloc (.cells #[.int .i64 2,.int .i32 0,.string ⟨#[]⟩,.slice none 0 0] 73)).later aq;have br:=aq.size;(try simp at br);have iJ:=(J6.bel (S:=fun b=>b=B) aq);have dz:=cD.trans' (K2 iJ);have aW:=K1 dz;have bS:=kfz dz;have el:=Jg aq;have mJ:=Jf aq;have dG:=lt0 W w2;have cA:=ltA W 1 w2;have kh:=lt0 w1 w2;have uj:B<w2.heap.size:=Ua))
   | (go_at_call_of 18 (Value.string ⟨#[116,114,117,101]⟩);go_loud (refine(Kdf (gL.alloc _) h1 ai).mono ?_;rintro r w3 ⟨rfl,ip,dU⟩))
   | (go_at_call_of 18 (Value.string ⟨#[102,97,108,115,101]⟩);go_loud (refine(Kdr ip h2 ai).mono ?_;rintro r w5 ⟨rfl,dv,bb⟩;have yx:=bb.size))
   | (go_at_call_of 18 (Value.string ⟨#[102,98,121]⟩);go_loud (refine(Kdr dv hf ai).mono ?_;rintro r w4 ⟨rfl,bT,iA⟩;have bn:=dz.trans' ((K2 dU).trans' (bb.trans' iA));have hkG:=dU.trans' (bb.trans' iA);have g0:=Na w4 w1.heap.size 0 2 ((K1 hkG _ _ er Ui).trans Uc);have g1:=Nb w4 w1.heap.size 1 (.int .i32 0) ((K1 hkG _ _ er Ui).trans Uc);have g2:=Nb w4 w1.heap.size 2 (.string ⟨#[]⟩) ((K1 hkG _ _ er Ui).trans Uc);have g3:=Nb w4 w1.heap.size 3 (.slice none 0 0) ((K1 hkG _ _ er Ui).trans Uc);replace br:=And.intro br (Nat.le_trans dU.size yx);(try simp at br);have cB:=bT.c0;have jK:=bT.c1;have et:=bT.c2;have jo:=bT.f0;have hfg:=bT.f1;have hfh:=bT.f2;have hkY:=K2 (K2 bn);have bv:=K1 bn;have hfz4:=kfz bn;have qS:=iA.size;(try simp at qS);have ns:=lt0 w2 w4;have us:=lt0 W w4;have va:=ltA W 1 w4;have hy4c:=lt0 w1 w4;have gu:B<w4.heap.size:=Ua;have z0:=Na w4 W.heap.size 0 0 ((bv _ _ aS Ui).trans Uc);have z1:=Nb w4 W.heap.size 1 (.int .i32 0) ((bv _ _ aS Ui).trans Uc);have z2:=Nb w4 W.heap.size 2 (.string ⟨#[]⟩) ((bv _ _ aS Ui).trans Uc);have z3:=Nb w4 W.heap.size 3 (.slice none 0 0) ((bv _ _ aS Ui).trans Uc))))
  refine Nv (v:= .tuple #[exV (.mk 2 0 ⟨#[]⟩ []) none 0,.bool true]) Vv rfl ?_;exact Ubo
theorem Kl9 {B:Nat} {ts:List Tk} {A:Option Addr} {cap:Nat} {st:St} {W:World} (h:X2 B ts A cap W st) (ai:ts.length<=100000) :
  Calls Tryz.prog 42 #[.pointer (some ⟨B,0,none⟩)] W (Kf4 B ts A cap W st (Kem ts st)):=by
 have aP:=fun W' (h':X2 B ts A cap W' st)=>Kfh h' ⟨#[45]⟩ ai
 by_cases h0:((Kc7 ts (Kc6 ts st ⟨#[45]⟩)).getD tkZ).kind=2
 ·refine Kmf h ai h0 ?_
  have hs:∃t,Kc7 ts (Kc6 ts st ⟨#[45]⟩)=some t:=by
   cases hn:Kc7 ts (Kc6 ts st ⟨#[45]⟩) with
   | none=>rw [hn] at h0;simp [tkZ] at h0
   | some t=>exact⟨t,rfl⟩
  obtain⟨t,ht⟩:=hs;unfold Kc7 at ht
  split at ht
  ·simp at ht
  ·exact(Nh ht).1
 ·unfold Kem;generalize Kc6 ts st ⟨#[45]⟩=st1 at aP h0 ⊢
  cases hm:Kc5 ts st ⟨#[45]⟩
  ·rw [hm] at aP;unfold Kfx;rw [if_neg h0,if_neg Uh]
   cases h1:Kc5 ts st1 ⟨#[116,114,117,101]⟩
   ·rw [if_neg Uh]
    cases h2:Kc5 ts st1 ⟨#[102,97,108,115,101]⟩
    ·rw [if_neg Uh];exact Kof h ai h0 aP h1 h2
    ·rw [if_pos rfl,Kdu h2];have:=Kkj h ai h0 aP h1 h2;exact Uaq
   ·rw [if_pos rfl,Kdu h1];have:=Klj h ai h0 aP h1;exact Uaq
  ·rw [hm] at aP;unfold Kfx;rw [if_neg h0,if_pos rfl];exact Kkd h h0 aP
end Go.Proofs.YtdgjplldlfeolaaGreatDoor
