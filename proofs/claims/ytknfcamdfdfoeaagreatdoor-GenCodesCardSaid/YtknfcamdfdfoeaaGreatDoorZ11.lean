/- Lemmas. -/
import Derived.Test.YtknfcamdfdfoeaaGreatDoorMac
import Derived.Test.YtknfcamdfdfoeaaGreatDoorZ10
set_option linter.unusedVariables false
set_option linter.unusedSimpArgs false
set_option maxRecDepth 100000
set_option maxHeartbeats 64000000
namespace Go.Proofs.YtknfcamdfdfoeaaGreatDoor
open Go.RowKit Go.Sort
structure Jdw (w:World) (l:List Va) (A:Option Addr) (cap B n:Nat):Prop where
 vars:Ju w l A cap
 map:Jz Tryz.prog 9 3 w B n (Qi l)
theorem Jdw.later {w w':World} {l:List Va} {A:Option Addr} {cap B n:Nat} (h:Jdw w l A cap B n) (hb:Below w.heap.size w w'):Jdw w' l A cap B n:=⟨h.vars.later hb,h.map.bel hb⟩
def Q6 (l:List Va) (A:Option Addr) (cap B:Nat):Value:= .agg #[.slice A l.length cap,.map (some B)]
theorem Jr8 (l:List Va) (A:Option Addr) (cap B n:Nat) (s:ByteArray) (hs:s.size<=maxLen) (w:World) (hl:Jdw w l A cap B n) :
  Calls Tryz.prog 152 #[Q6 l A cap B,.string s] w fun r w'=>r = .returned (.tuple #[.int .i64 (K7 l s).1,.bool (K7 l s).2])/\Below w.heap.size w w':=by
 have aD:=hl.vars.len;unfold maxLen at aD;obtain⟨fD,cG⟩:=aD;have hm:=hl.map;have hBz:=hm.lt;have hv:K7 l s=K7 l s:=rfl;rw (occs:= .pos [2]) [K7] at hv;unfold Q6
 cases hf:Qi l s with
 | none=>
  rw [hf] at hv;have HV:=Lib.hid hv;clear hv
  go_enter Tryz.func152,Tryz.ntmps152
  go_wp2_with (first|(at_lookup;refine Qh rfl (.tmp 10) (.tmp 11) 115 rfl Tryz.underlying9 Tryz.underlying115 Tryz.underlying3 (Kj _) B n (Qi l) s rfl Udh rfl hs ?_))
  go_wp2_with fail
  go_ret2
  exact⟨Vi,Jb⟩
 | some j=>
  rw [hf] at hv;obtain⟨k,v,rfl,hx,_⟩:=Zi hf;have fR:k<l.length:=(List.getElem?_eq_some_iff.1 hx).1;obtain⟨b,off,rfl,aH,⟨d0,d1,d2,d3⟩⟩:=hl.vars.get hx;simp only [Int.toNat_natCast,hx] at hv;have gz:b<w.heap.size+1:=Ua;clear hx;have HV:=Lib.hid hv;clear hv
  go_enter Tryz.func152,Tryz.ntmps152
  go_wp2_with (first|(at_lookup;refine Qh rfl (.tmp 10) (.tmp 11) 115 rfl Tryz.underlying9 Tryz.underlying115 Tryz.underlying3 (Kj _) B n (Qi l) s rfl Udh rfl hs ?_))
  go_wp2_with fail
  go_ret2
  exact⟨Vi,Jb⟩
theorem Zd:(Tryz.prog.info? 3).map (fun i=>(i.zero,i.size,i.bytes))=some (some (.int .i64 0),1,8):=Ug
theorem Jwm {w:World} {base base':Nat} {e:TypeId} {size n:Nat} {v:Value} {xs:List Value} (h:w.ownsRow base e size v n xs) (hb:base'<=base):w.ownsRow base' e size v n xs:=by
 refine⟨h.1,?_⟩
 rcases h.2 with h2|⟨g,cap,cur,hv,hg,r⟩
 ·exact .inl h2
 ·exact .inr ⟨g,cap,cur,hv,Ua,r⟩
theorem Jvu (e:Ex) (l:List Va) (A:Option Addr) (cap B n:Nat) (Ae:Option Addr) (ce:Nat) (w:World) (he:Jt w e Ae ce) (hl:Jdw w l A cap B n) (h3:e.sub.length<=3)
  (ix:∀x∈e.sub,∀(A':Option Addr) (c':Nat) (W:World),Jt W x A' c'->Jdw W l A cap B n->
   Calls Tryz.prog 132 #[Q6 l A cap B,exV x A' c'] W fun r w'=>r = .returned (.tuple #[.int .i64 (x.typ l).1,.int .i64 (x.typ l).2])/\Below W.heap.size W w') :
  Calls Tryz.prog 151 #[Q6 l A cap B,exV e Ae ce] w fun r w'=>
   (∃v,r = .returned (.tuple #[v,.int .i64 (Ex.typL l e.sub).2])/\w'.ownsRow w.heap.size 3 1 v (Ex.typL l e.sub).1.length ((Ex.typL l e.sub).1.map (Value.int .i64)))/\Below w.heap.size w w':=by
 have ai:=he.len;unfold maxLen at ai;obtain⟨bI,aD⟩:=ai;have hT:=Lib.hid (show Ku [] (Ex.typL l (e.sub.drop 0))=Ex.typL l e.sub from Xq _ (Yb l e.sub));unfold Q6 exV at *
 go_enter Tryz.func151,Tryz.ntmps151
 go_wp2_with fail
 refine Jo fun W0 ag=>?_;have ax:Below w.heap.size w W0:=Uo;have bD:w.heap.size<W0.heap.size:=Us;have hz01:w.heap.size+1<W0.heap.size:=La;have l0:W0.cell? ⟨w.heap.size,0,none⟩=some (.slice A l.length cap):=Uc;have l1:W0.cell? ⟨w.heap.size,1,none⟩=some (.map (some B)):=Uc;clear ag;replace he:=he.later ax;replace hl:=hl.later ax
 go_loopw [6,14] (fun v i wr=>∃(k:Nat) (acc:List Int),k<=e.sub.length/\i = .int .i64 k/\acc.length=k/\wr.ownsRow W0.heap.size 3 1 v k (acc.map (Value.int .i64))/\Ku acc (Ex.typL l (e.sub.drop k))=Ex.typL l e.sub/\Below W0.heap.size W0 wr) (fun _ i _=>e.sub.length-(intOf i).toNat)
 case atStart=>exact⟨0,[],Nat.zero_le _,rfl,rfl,World.ownsRow_nil _ _ _ _,hT.out,Below.refl _ _⟩
 case round=>
  obtain⟨k,acc,hk,rfl,aR,ae,aa,ab⟩:=hrel;have hc:=Jg ab;have bu:=ab.size;have af:w.heap.size<wr.heap.size:=Ua;have br:w.heap.size+1<wr.heap.size:=Ua;have dt:=Lib.hid aR;clear aR
  by_cases am:k<e.sub.length
  ·obtain⟨x,hx,aj,hd⟩:=Kl am;obtain⟨b,off,A',cap',rfl,c0,c1,c2,c3,hs⟩:=(he.later ab).get hx;rw [hd] at aa;have cw:=ix x aj A' cap'
   cases ew:((x.typ l).2 != 0)
   ·have h0:(x.typ l).2=0:=Vr;rw [Yl l acc x _ h0] at aa;have HR:=Lib.hid aa;clear aa hd hx h0
    go_wp2_with (first|(go_at_call 132;refine(cw _ (hs.later Jb) (hl.later Jb)).mono ?_;rintro r w1 ⟨rfl,ac⟩;have ak:=Jg ac;have af:=ac.size;(try simp at af))|(at_builtin;refine K2 rfl (.tmp 27) (.tmp 29) 77 rfl W0.heap.size 3 (.int .i64 0) 1 8 Tryz.underlying77 Zd rfl Ua u6 k (acc.map (Value.int .i64)) _ 1 [.int .i64 (x.typ l).1] rfl Udk rfl rfl (fun j u hj=>U9) Uv Ua Ua U7 ?_;intro v2 w2 ao aq;have br:=aq.size;(try simp at br)))
    exact Ued
   ·have h0:(x.typ l).2≠0:=Vr;rw [Yk l acc x _ h0] at aa;have HR:=Lib.hid aa.symm;clear aa hd hx h0
    go_wp2_with (first|(go_at_call 132;refine(cw _ (hs.later Jb) (hl.later Jb)).mono ?_;rintro r w1 ⟨rfl,ac⟩;have ak:=Jg ac;have af:=ac.size;(try simp at af)))
    go_ret2
    exact⟨⟨.slice none 0 0,by rw [HR.out];rfl,by rw [HR.out];exact World.ownsRow_nil _ _ _ _⟩,Jb⟩
  ·obtain rfl:k=e.sub.length:=Ua;rw [List.drop_length,Ex.typL,Ku,if_pos rfl,List.append_nil] at aa;have HR:=Lib.hid aa.symm;clear aa
   go_wp2_with fail
   go_ret2
   refine⟨⟨_,by rw [HR.out];rfl,?_⟩,Jb⟩;rw [HR.out];have:=dt.out;dsimp only;rw [this];exact Jwm ae Ua
theorem Jzk (l:List Va) (e:Ex) (h:(e.typ l).2=0):(e.typ l).1=1\/(e.typ l).1=2:=by
 rw [Ex.typ_eq] at h ⊢
 split at h
 ·rename_i h0;rw [if_pos h0];unfold Y2 at h ⊢
  split at h
  ·exact Lt
  ·rename_i h1;rw [if_neg h1];unfold Jbl at h ⊢
   split at h
   ·rename_i h2;rw [if_pos h2];exact h2.2
   ·exact Lt
 ·rename_i h0;exact absurd h h0
theorem Jl8 (l:List Va):∀sub:List Ex,(Ex.typL l sub).2=0->∀t∈(Ex.typL l sub).1,t=1\/t=2
 | [],_,t,ht=>by simp [Ex.typL] at ht
 | x :: r,h,t,ht=>by
  simp only [Ex.typL,Ku] at h ht
  split at h
  ·rename_i h0;rw [if_pos h0] at ht
   split at h
   ·rename_i h1;rw [if_pos h1] at ht;simp only [List.singleton_append,List.mem_cons] at ht
    rcases ht with rfl|ht
    ·exact Jzk l x h0
    ·exact Jl8 l r h1 t ht
   ·rename_i h1;exact absurd h h1
  ·rename_i h0;exact absurd h h0
def Q7 (e:Ex) (l:List Va) (A:Option Addr) (cap B:Nat) (Ae:Option Addr) (ce:Nat) (w:World):Prop:=
 ∀W,Below w.heap.size w W->Calls Tryz.prog 151 #[Q6 l A cap B,exV e Ae ce] W fun r w'=>
   (∃v,r = .returned (.tuple #[v,.int .i64 (Ex.typL l e.sub).2])/\w'.ownsRow W.heap.size 3 1 v (Ex.typL l e.sub).1.length ((Ex.typL l e.sub).1.map (Value.int .i64)))/\Below W.heap.size W w'
def Xz (e:Ex) (l:List Va) (A:Option Addr) (cap B:Nat) (w:World):Prop:=
 ∀W,Below w.heap.size w W->Calls Tryz.prog 152 #[Q6 l A cap B,.string e.name] W fun r w'=>r = .returned (.tuple #[.int .i64 (K7 l e.name).1,.bool (K7 l e.name).2])/\Below W.heap.size W w'
theorem Jzt (e:Ex) (l:List Va) (A:Option Addr) (cap B:Nat) (Ae:Option Addr) (ce:Nat) (w:World) (hk:e.kind=1) (aU:Ex.typL l e.sub=([],0)) (dI:e.name.toList.isEmpty=true)
  (av:Q7 e l A cap B Ae ce w) (aF:Xz e l A cap B w) :
  Calls Tryz.prog 132 #[Q6 l A cap B,exV e Ae ce] w fun r w'=>r = .returned (.tuple #[.int .i64 (e.typ l).1,.int .i64 (e.typ l).2])/\Below w.heap.size w w':=by
 have hv:e.typ l=Y2 l e.kind e.n e.name []:=Lz;rw [hk,Y2,if_neg Lx] at hv;have dS:(Ex.typL l e.sub).1 = []:=L2;have lG:(Ex.typL l e.sub).2=0:=L2;clear aU;unfold Q7 at av;unfold Xz at aF;have q1:(e.kind == 1)=true:=Ud;clear hk;unfold Q6 exV at *;simp [Je3,Jbl] at hv;have HV:=Lib.hid hv;clear hv
 go_enter Tryz.func132,Tryz.ntmps132
 go_wp2_with (first|(go_at_call 151;refine(av _ Jb).mono ?_;rintro r w1 ⟨⟨v,rfl,ae⟩,ac⟩;have ⟨ak,af⟩:=aft ac;(try simp at af);(try have bV:=lt0 w w1);(try have gq:=ltA w 1 w1);(try have ow:=ltA w 2 w1);(try have ns:=lt0 wr w1);(try have nt:=ltA wr 1 w1);rw [dS] at ae)|(go_at_call 152;refine(aF _ Jb).mono ?_;rintro r w1 ⟨rfl,ac⟩;have ⟨ak,af⟩:=aft ac;(try simp at af);(try have bV:=lt0 w w1);(try have gq:=ltA w 1 w1);(try have ow:=ltA w 2 w1);(try have ns:=lt0 wr w1);(try have nt:=ltA wr 1 w1);(try have eC:=Nat.lt_of_lt_of_le aG ac.size)))
 go_ret2
 exact⟨Vi,Jb⟩
theorem Jzr (e:Ex) (l:List Va) (A:Option Addr) (cap B:Nat) (Ae:Option Addr) (ce:Nat) (w:World) (hk:e.kind=2) (aU:Ex.typL l e.sub=([],0)) (dI:e.name.toList.isEmpty=true)
  (av:Q7 e l A cap B Ae ce w) (aF:Xz e l A cap B w) :
  Calls Tryz.prog 132 #[Q6 l A cap B,exV e Ae ce] w fun r w'=>r = .returned (.tuple #[.int .i64 (e.typ l).1,.int .i64 (e.typ l).2])/\Below w.heap.size w w':=by
 have hv:e.typ l=Y2 l e.kind e.n e.name []:=Lz;rw [hk,Y2,if_neg Lx] at hv;have dS:(Ex.typL l e.sub).1 = []:=L2;have lG:(Ex.typL l e.sub).2=0:=L2;clear aU;unfold Q7 at av;unfold Xz at aF;have q1:(e.kind == 1)=false:=Ud;have q2:(e.kind == 2)=true:=Ud;clear hk;unfold Q6 exV at *;simp [Je3,Jbl] at hv;have HV:=Lib.hid hv;clear hv
 go_enter Tryz.func132,Tryz.ntmps132
 go_wp2_with (first|(go_at_call 151;refine(av _ Jb).mono ?_;rintro r w1 ⟨⟨v,rfl,ae⟩,ac⟩;have ⟨ak,af⟩:=aft ac;(try simp at af);(try have bV:=lt0 w w1);(try have gq:=ltA w 1 w1);(try have ow:=ltA w 2 w1);(try have ns:=lt0 wr w1);(try have nt:=ltA wr 1 w1);rw [dS] at ae)|(go_at_call 152;refine(aF _ Jb).mono ?_;rintro r w1 ⟨rfl,ac⟩;have ⟨ak,af⟩:=aft ac;(try simp at af);(try have bV:=lt0 w w1);(try have gq:=ltA w 1 w1);(try have ow:=ltA w 2 w1);(try have ns:=lt0 wr w1);(try have nt:=ltA wr 1 w1);(try have eC:=Nat.lt_of_lt_of_le aG ac.size)))
 go_ret2
 exact⟨Vi,Jb⟩
theorem Jzx (e:Ex) (l:List Va) (A:Option Addr) (cap B:Nat) (Ae:Option Addr) (ce:Nat) (w:World) (hk:e.kind=3) (aU:Ex.typL l e.sub=([],0)) (dI:e.name.toList.isEmpty=false) (nP:(K7 l e.name).2=true)
  (av:Q7 e l A cap B Ae ce w) (aF:Xz e l A cap B w) :
  Calls Tryz.prog 132 #[Q6 l A cap B,exV e Ae ce] w fun r w'=>r = .returned (.tuple #[.int .i64 (e.typ l).1,.int .i64 (e.typ l).2])/\Below w.heap.size w w':=by
 have hv:e.typ l=Y2 l e.kind e.n e.name []:=Lz;rw [hk,Y2,if_neg Lx] at hv;have dS:(Ex.typL l e.sub).1 = []:=L2;have lG:(Ex.typL l e.sub).2=0:=L2;clear aU;unfold Q7 at av;unfold Xz at aF;have q1:(e.kind == 1)=false:=Ud;have q2:(e.kind == 2)=false:=Ud;have q3:(e.kind == 3)=true:=Ud;clear hk;unfold Q6 exV at *;generalize aL:(K7 l e.name).1=nm at hv aF;clear aL
 rcases(show nm=1\/nm=2\/(nm≠1/\nm≠2) from by omega) with rfl|rfl|⟨n1,n2⟩
 ·replace hv:e.typ l=(1,0):=by rw [hv];rfl
  have HV:=Lib.hid hv;clear hv
  go_enter Tryz.func132,Tryz.ntmps132
  go_wp2_with (first|(go_at_call 151;refine(av _ Jb).mono ?_;rintro r w1 ⟨⟨v,rfl,ae⟩,ac⟩;have ⟨ak,af⟩:=aft ac;(try simp at af);(try have bV:=lt0 w w1);(try have gq:=ltA w 1 w1);(try have ow:=ltA w 2 w1);(try have ns:=lt0 wr w1);(try have nt:=ltA wr 1 w1);rw [dS] at ae)|(go_at_call 152;refine(aF _ Jb).mono ?_;rintro r w1 ⟨rfl,ac⟩;have ⟨ak,af⟩:=aft ac;(try simp at af);(try have bV:=lt0 w w1);(try have gq:=ltA w 1 w1);(try have ow:=ltA w 2 w1);(try have ns:=lt0 wr w1);(try have nt:=ltA wr 1 w1);(try have eC:=Nat.lt_of_lt_of_le aG ac.size)))
  go_ret2
  exact⟨Vi,Jb⟩
 ·replace hv:e.typ l=(2,0):=by rw [hv];rfl
  have HV:=Lib.hid hv;clear hv
  go_enter Tryz.func132,Tryz.ntmps132
  go_wp2_with (first|(go_at_call 151;refine(av _ Jb).mono ?_;rintro r w1 ⟨⟨v,rfl,ae⟩,ac⟩;have ⟨ak,af⟩:=aft ac;(try simp at af);(try have bV:=lt0 w w1);(try have gq:=ltA w 1 w1);(try have ow:=ltA w 2 w1);(try have ns:=lt0 wr w1);(try have nt:=ltA wr 1 w1);rw [dS] at ae)|(go_at_call 152;refine(aF _ Jb).mono ?_;rintro r w1 ⟨rfl,ac⟩;have ⟨ak,af⟩:=aft ac;(try simp at af);(try have bV:=lt0 w w1);(try have gq:=ltA w 1 w1);(try have ow:=ltA w 2 w1);(try have ns:=lt0 wr w1);(try have nt:=ltA wr 1 w1);(try have eC:=Nat.lt_of_lt_of_le aG ac.size)))
  go_ret2
  exact⟨Vi,Jb⟩
 ·replace hv:e.typ l=(0,20):=by rw [hv];exact if_neg (by rintro⟨_,h⟩;exact h.elim n1 n2)
  have m1:(nm != 1)=true:=by simpa using n1
  have m2:(nm != 2)=true:=by simpa using n2
  clear n1 n2;have HV:=Lib.hid hv;clear hv
  go_enter Tryz.func132,Tryz.ntmps132
  go_wp2_with (first|(go_at_call 151;refine(av _ Jb).mono ?_;rintro r w1 ⟨⟨v,rfl,ae⟩,ac⟩;have ⟨ak,af⟩:=aft ac;(try simp at af);(try have bV:=lt0 w w1);(try have gq:=ltA w 1 w1);(try have ow:=ltA w 2 w1);(try have ns:=lt0 wr w1);(try have nt:=ltA wr 1 w1);rw [dS] at ae)|(go_at_call 152;refine(aF _ Jb).mono ?_;rintro r w1 ⟨rfl,ac⟩;have ⟨ak,af⟩:=aft ac;(try simp at af);(try have bV:=lt0 w w1);(try have gq:=ltA w 1 w1);(try have ow:=ltA w 2 w1);(try have ns:=lt0 wr w1);(try have nt:=ltA wr 1 w1);(try have eC:=Nat.lt_of_lt_of_le aG ac.size)))
  go_ret2
  exact⟨Vi,Jb⟩
theorem Kac (e:Ex) (l:List Va) (A:Option Addr) (cap B:Nat) (Ae:Option Addr) (ce:Nat) (w:World) (t0:Int) (hk:e.kind=4) (aU:Ex.typL l e.sub=([t0],0)) (fQ:t0=1\/t0=2) (hn:e.n=1\/e.n=2) (dI:e.name.toList.isEmpty=true)
  (av:Q7 e l A cap B Ae ce w) (aF:Xz e l A cap B w) :
  Calls Tryz.prog 132 #[Q6 l A cap B,exV e Ae ce] w fun r w'=>r = .returned (.tuple #[.int .i64 (e.typ l).1,.int .i64 (e.typ l).2])/\Below w.heap.size w w':=by
 have hv:e.typ l=Y2 l e.kind e.n e.name [t0]:=Lz;rw [hk,Y2,if_neg Lx] at hv;have dS:(Ex.typL l e.sub).1 = [t0]:=L2;have lG:(Ex.typL l e.sub).2=0:=L2;clear aU;unfold Q7 at av;unfold Xz at aF;have q1:(e.kind == 1)=false:=Ud;have q2:(e.kind == 2)=false:=Ud;have q3:(e.kind == 3)=false:=Ud;have q4:(e.kind == 4)=true:=Ud;clear hk;unfold Q6 exV at *
 rcases fQ with rfl|rfl <;> rcases hn with hn|hn <;>
 ·rw [hn] at hv;simp [Je3,Jbl] at hv
  (try have eR:(e.n == 1)=true:=by rw [hn];rfl)
  (try have eR:(e.n == 1)=false:=by rw [hn];rfl)
  (try have eu:(e.n == 2)=true:=by rw [hn];rfl)
  (try have eu:(e.n == 2)=false:=by rw [hn];rfl)
  clear hn;have HV:=Lib.hid hv;clear hv
  go_enter Tryz.func132,Tryz.ntmps132
  go_wp2_with (first|(go_at_call 151;refine(av _ Jb).mono ?_;rintro r w1 ⟨⟨v,rfl,ae⟩,ac⟩;have ⟨ak,af⟩:=aft ac;(try simp at af);(try have bV:=lt0 w w1);(try have gq:=ltA w 1 w1);(try have ow:=ltA w 2 w1);(try have ns:=lt0 wr w1);(try have nt:=ltA wr 1 w1);rw [dS] at ae;simp only [List.map_cons,List.map_nil,List.length_cons,List.length_nil,Nat.zero_add,Nat.reduceAdd] at ae;obtain⟨g,gc,rfl,eN,aG,bJ,cg,ah⟩:=Kc ae Ua;unfold maxLen at cg;have e0:=ah 0 _ rfl;clear ah ae)|(go_at_call 152;refine(aF _ Jb).mono ?_;rintro r w1 ⟨rfl,ac⟩;have ⟨ak,af⟩:=aft ac;(try simp at af);(try have bV:=lt0 w w1);(try have gq:=ltA w 1 w1);(try have ow:=ltA w 2 w1);(try have ns:=lt0 wr w1);(try have nt:=ltA wr 1 w1);(try have eC:=Nat.lt_of_lt_of_le aG ac.size)))
  go_ret2
  exact⟨Vi,Jb⟩
theorem Jzv (e:Ex) (l:List Va) (A:Option Addr) (cap B:Nat) (Ae:Option Addr) (ce:Nat) (w:World) (t0 t1 t2:Int) (hk:e.kind=6) (aU:Ex.typL l e.sub=([t0,t1,t2],0)) (fQ:t0=1\/t0=2) (gJ:t1=1\/t1=2) (nQ:t2=1\/t2=2) (dI:e.name.toList.isEmpty=true)
  (av:Q7 e l A cap B Ae ce w) (aF:Xz e l A cap B w) :
  Calls Tryz.prog 132 #[Q6 l A cap B,exV e Ae ce] w fun r w'=>r = .returned (.tuple #[.int .i64 (e.typ l).1,.int .i64 (e.typ l).2])/\Below w.heap.size w w':=by
 have hv:e.typ l=Y2 l e.kind e.n e.name [t0,t1,t2]:=Lz;rw [hk,Y2,if_neg Lx] at hv;have dS:(Ex.typL l e.sub).1 = [t0,t1,t2]:=L2;have lG:(Ex.typL l e.sub).2=0:=L2;clear aU;unfold Q7 at av;unfold Xz at aF;have q1:(e.kind == 1)=false:=Ud;have q2:(e.kind == 2)=false:=Ud;have q3:(e.kind == 3)=false:=Ud;have q4:(e.kind == 4)=false:=Ud;have q5:(e.kind == 5)=false:=Ud;have q6:(e.kind == 6)=true:=Ud;clear hk;unfold Q6 exV at *
 have dD:∀(p q:Bool),(t0 == 2)=p->(t1 == t2)=q->e.typ l=if (p && q)=true/\(t1=1\/t1=2) then(t1,0) else(0,20):=by
  rintro p q rfl rfl;rw [hv];rfl
 clear hv
 cases a:(t0 == 2)
 ·have hv:e.typ l=(0,20):=by rw [dD _ _ a rfl];rfl
  clear dD;have HV:=Lib.hid hv;clear hv
  go_enter Tryz.func132,Tryz.ntmps132
  go_wp2_with (first|(go_at_call 151;refine(av _ Jb).mono ?_;rintro r w1 ⟨⟨v,rfl,ae⟩,ac⟩;have ⟨ak,af⟩:=aft ac;(try simp at af);(try have bV:=lt0 w w1);(try have gq:=ltA w 1 w1);(try have ow:=ltA w 2 w1);(try have ns:=lt0 wr w1);(try have nt:=ltA wr 1 w1);rw [dS] at ae;simp only [List.map_cons,List.map_nil,List.length_cons,List.length_nil,Nat.zero_add,Nat.reduceAdd] at ae;obtain⟨g,gc,rfl,eN,aG,bJ,cg,ah⟩:=Kc ae Ua;unfold maxLen at cg;have e0:=ah 0 _ rfl;have e1:=ah 1 _ rfl;have e2:=ah 2 _ rfl;clear ah ae)|(go_at_call 152;refine(aF _ Jb).mono ?_;rintro r w1 ⟨rfl,ac⟩;have ⟨ak,af⟩:=aft ac;(try simp at af);(try have bV:=lt0 w w1);(try have gq:=ltA w 1 w1);(try have ow:=ltA w 2 w1);(try have ns:=lt0 wr w1);(try have nt:=ltA wr 1 w1);(try have eC:=Nat.lt_of_lt_of_le aG ac.size)))
  refine Jx Ug Ug (fun bj=>?_)
  repeat (quiet_step (fail))
  refine wpQuiet_nil ?_;intro wq au;replace au:=qbo au;obtain⟨au,dA,bh⟩:=au;clear bj
  (try simp at bh)
  (try have oO:=lt0 w wq);(try have nw:=ltA w 1 wq);(try have hyq3:=ltA w 2 wq);(try have hyq4:=lt0 wr wq)
  go_wp2_with fail
  go_ret2
  exact⟨Vi,Jb⟩
 cases b:(t1 == t2)
 ·have hv:e.typ l=(0,20):=by rw [dD _ _ a b];rfl
  clear dD;have HV:=Lib.hid hv;clear hv
  go_enter Tryz.func132,Tryz.ntmps132
  go_wp2_with (first|(go_at_call 151;refine(av _ Jb).mono ?_;rintro r w1 ⟨⟨v,rfl,ae⟩,ac⟩;have ⟨ak,af⟩:=aft ac;(try simp at af);(try have bV:=lt0 w w1);(try have gq:=ltA w 1 w1);(try have ow:=ltA w 2 w1);(try have ns:=lt0 wr w1);(try have nt:=ltA wr 1 w1);rw [dS] at ae;simp only [List.map_cons,List.map_nil,List.length_cons,List.length_nil,Nat.zero_add,Nat.reduceAdd] at ae;obtain⟨g,gc,rfl,eN,aG,bJ,cg,ah⟩:=Kc ae Ua;unfold maxLen at cg;have e0:=ah 0 _ rfl;have e1:=ah 1 _ rfl;have e2:=ah 2 _ rfl;clear ah ae)|(go_at_call 152;refine(aF _ Jb).mono ?_;rintro r w1 ⟨rfl,ac⟩;have ⟨ak,af⟩:=aft ac;(try simp at af);(try have bV:=lt0 w w1);(try have gq:=ltA w 1 w1);(try have ow:=ltA w 2 w1);(try have ns:=lt0 wr w1);(try have nt:=ltA wr 1 w1);(try have eC:=Nat.lt_of_lt_of_le aG ac.size)))
  refine Jx Ug Ug (fun bj=>?_)
  repeat (quiet_step (fail))
  refine wpQuiet_nil ?_;intro wq au;replace au:=qbo au;obtain⟨au,dA,bh⟩:=au;clear bj
  (try simp at bh)
  (try have oO:=lt0 w wq);(try have nw:=ltA w 1 wq);(try have hyq3:=ltA w 2 wq);(try have hyq4:=lt0 wr wq)
  go_wp2_with fail
  go_ret2
  exact⟨Vi,Jb⟩
 have hv:=dD _ _ a b;clear dD
 rcases gJ with rfl|rfl
 ·replace hv:e.typ l=(1,0):=hv;have HV:=Lib.hid hv;clear hv
  go_enter Tryz.func132,Tryz.ntmps132
  go_wp2_with (first|(go_at_call 151;refine(av _ Jb).mono ?_;rintro r w1 ⟨⟨v,rfl,ae⟩,ac⟩;have ⟨ak,af⟩:=aft ac;(try simp at af);(try have bV:=lt0 w w1);(try have gq:=ltA w 1 w1);(try have ow:=ltA w 2 w1);(try have ns:=lt0 wr w1);(try have nt:=ltA wr 1 w1);rw [dS] at ae;simp only [List.map_cons,List.map_nil,List.length_cons,List.length_nil,Nat.zero_add,Nat.reduceAdd] at ae;obtain⟨g,gc,rfl,eN,aG,bJ,cg,ah⟩:=Kc ae Ua;unfold maxLen at cg;have e0:=ah 0 _ rfl;have e1:=ah 1 _ rfl;have e2:=ah 2 _ rfl;clear ah ae)|(go_at_call 152;refine(aF _ Jb).mono ?_;rintro r w1 ⟨rfl,ac⟩;have ⟨ak,af⟩:=aft ac;(try simp at af);(try have bV:=lt0 w w1);(try have gq:=ltA w 1 w1);(try have ow:=ltA w 2 w1);(try have ns:=lt0 wr w1);(try have nt:=ltA wr 1 w1);(try have eC:=Nat.lt_of_lt_of_le aG ac.size)))
  refine Jx Ug Ug (fun bj=>?_)
  repeat (quiet_step (fail))
  refine wpQuiet_nil ?_;intro wq au;replace au:=qbo au;obtain⟨au,dA,bh⟩:=au;clear bj
  (try simp at bh)
  (try have oO:=lt0 w wq);(try have nw:=ltA w 1 wq);(try have hyq3:=ltA w 2 wq);(try have hyq4:=lt0 wr wq)
  go_wp2_with fail
  go_ret2
  exact⟨Vi,Jb⟩
 ·replace hv:e.typ l=(2,0):=hv;have HV:=Lib.hid hv;clear hv
  go_enter Tryz.func132,Tryz.ntmps132
  go_wp2_with (first|(go_at_call 151;refine(av _ Jb).mono ?_;rintro r w1 ⟨⟨v,rfl,ae⟩,ac⟩;have ⟨ak,af⟩:=aft ac;(try simp at af);(try have bV:=lt0 w w1);(try have gq:=ltA w 1 w1);(try have ow:=ltA w 2 w1);(try have ns:=lt0 wr w1);(try have nt:=ltA wr 1 w1);rw [dS] at ae;simp only [List.map_cons,List.map_nil,List.length_cons,List.length_nil,Nat.zero_add,Nat.reduceAdd] at ae;obtain⟨g,gc,rfl,eN,aG,bJ,cg,ah⟩:=Kc ae Ua;unfold maxLen at cg;have e0:=ah 0 _ rfl;have e1:=ah 1 _ rfl;have e2:=ah 2 _ rfl;clear ah ae)|(go_at_call 152;refine(aF _ Jb).mono ?_;rintro r w1 ⟨rfl,ac⟩;have ⟨ak,af⟩:=aft ac;(try simp at af);(try have bV:=lt0 w w1);(try have gq:=ltA w 1 w1);(try have ow:=ltA w 2 w1);(try have ns:=lt0 wr w1);(try have nt:=ltA wr 1 w1);(try have eC:=Nat.lt_of_lt_of_le aG ac.size)))
  refine Jx Ug Ug (fun bj=>?_)
  repeat (quiet_step (fail))
  refine wpQuiet_nil ?_;intro wq au;replace au:=qbo au;obtain⟨au,dA,bh⟩:=au;clear bj
  (try simp at bh)
  (try have oO:=lt0 w wq);(try have nw:=ltA w 1 wq);(try have hyq3:=ltA w 2 wq);(try have hyq4:=lt0 wr wq)
  go_wp2_with fail
  go_ret2
  exact⟨Vi,Jb⟩
end Go.Proofs.YtknfcamdfdfoeaaGreatDoor
