/- Lemmas. -/
import Derived.Test.YtdgjplldlfeolaaGreatDoorZ03
set_option linter.unusedVariables false
set_option linter.unusedSimpArgs false
set_option maxRecDepth 100000
set_option maxHeartbeats 64000000
namespace Go.Proofs.YtdgjplldlfeolaaGreatDoor
open Go.RowKit Go.Sort
theorem Jzt (e:Ex) (l:List Va) (A:Option Addr) (cap B:Nat) (Ae:Option Addr) (ce:Nat) (w:World) (hk:e.kind=1) (aU:Ex.typL l e.sub=([],0)) (dI:e.name.toList.isEmpty=true)
  (av:Q7 e l A cap B Ae ce w) (aF:Xz e l A cap B w) :
  Calls Tryz.prog 139 #[Q6 l A cap B,exV e Ae ce] w fun r w'=>r = .returned (.tuple #[.int .i64 (e.typ l).1,.int .i64 (e.typ l).2])/\Below w.heap.size w w':=by
 have hv:e.typ l=Y2 l e.kind e.n e.name []:=by rw [Ex.typ_eq,aU];rfl
 rw [hk,Y2,if_neg (by rintro⟨h1,h2⟩;simp_all)] at hv;have dS:(Ex.typL l e.sub).1 = []:=by rw [aU]
 have lG:(Ex.typL l e.sub).2=0:=by rw [aU]
 clear aU;unfold Q7 at av;unfold Xz at aF;have q1:(e.kind == 1)=true:=by rw [hk];rfl
 clear hk;unfold Q6 exV at *;simp [Je3,Jbl] at hv;have HV:=Lib.hid hv;clear hv
 go_enter Tryz.func139,Tryz.ntmps139
 go_wp2_with (first|(go_at_call 148;refine(av _ Jb).mono ?_;rintro r w1 ⟨⟨v,rfl,ae⟩,ac⟩;have ⟨ak,af⟩:=aft ac;(try simp at af);have bV:=alt ac;rw [dS] at ae)|(go_at_call 149;refine(aF _ Jb).mono ?_;rintro r w1 ⟨rfl,ac⟩;have ⟨ak,af⟩:=aft ac;(try simp at af);have bV:=alt ac;(try have eC:=Nat.lt_of_lt_of_le aG ac.size)))
 go_ret2
 exact⟨by rw [HV.out];rfl,Jb⟩
theorem Jzr (e:Ex) (l:List Va) (A:Option Addr) (cap B:Nat) (Ae:Option Addr) (ce:Nat) (w:World) (hk:e.kind=2) (aU:Ex.typL l e.sub=([],0)) (dI:e.name.toList.isEmpty=true)
  (av:Q7 e l A cap B Ae ce w) (aF:Xz e l A cap B w) :
  Calls Tryz.prog 139 #[Q6 l A cap B,exV e Ae ce] w fun r w'=>r = .returned (.tuple #[.int .i64 (e.typ l).1,.int .i64 (e.typ l).2])/\Below w.heap.size w w':=by
 have hv:e.typ l=Y2 l e.kind e.n e.name []:=by rw [Ex.typ_eq,aU];rfl
 rw [hk,Y2,if_neg (by rintro⟨h1,h2⟩;simp_all)] at hv;have dS:(Ex.typL l e.sub).1 = []:=by rw [aU]
 have lG:(Ex.typL l e.sub).2=0:=by rw [aU]
 clear aU;unfold Q7 at av;unfold Xz at aF;have q1:(e.kind == 1)=false:=by rw [hk];rfl
 have q2:(e.kind == 2)=true:=by rw [hk];rfl
 clear hk;unfold Q6 exV at *;simp [Je3,Jbl] at hv;have HV:=Lib.hid hv;clear hv
 go_enter Tryz.func139,Tryz.ntmps139
 go_wp2_with (first|(go_at_call 148;refine(av _ Jb).mono ?_;rintro r w1 ⟨⟨v,rfl,ae⟩,ac⟩;have ⟨ak,af⟩:=aft ac;(try simp at af);have bV:=alt ac;rw [dS] at ae)|(go_at_call 149;refine(aF _ Jb).mono ?_;rintro r w1 ⟨rfl,ac⟩;have ⟨ak,af⟩:=aft ac;(try simp at af);have bV:=alt ac;(try have eC:=Nat.lt_of_lt_of_le aG ac.size)))
 go_ret2
 exact⟨by rw [HV.out];rfl,Jb⟩
theorem Jzx (e:Ex) (l:List Va) (A:Option Addr) (cap B:Nat) (Ae:Option Addr) (ce:Nat) (w:World) (hk:e.kind=3) (aU:Ex.typL l e.sub=([],0)) (dI:e.name.toList.isEmpty=false) (nP:(K7 l e.name).2=true)
  (av:Q7 e l A cap B Ae ce w) (aF:Xz e l A cap B w) :
  Calls Tryz.prog 139 #[Q6 l A cap B,exV e Ae ce] w fun r w'=>r = .returned (.tuple #[.int .i64 (e.typ l).1,.int .i64 (e.typ l).2])/\Below w.heap.size w w':=by
 have hv:e.typ l=Y2 l e.kind e.n e.name []:=by rw [Ex.typ_eq,aU];rfl
 rw [hk,Y2,if_neg (by rintro⟨h1,h2⟩;simp_all)] at hv;have dS:(Ex.typL l e.sub).1 = []:=by rw [aU]
 have lG:(Ex.typL l e.sub).2=0:=by rw [aU]
 clear aU;unfold Q7 at av;unfold Xz at aF;have q1:(e.kind == 1)=false:=by rw [hk];rfl
 have q2:(e.kind == 2)=false:=by rw [hk];rfl
 have q3:(e.kind == 3)=true:=by rw [hk];rfl
 clear hk;unfold Q6 exV at *;generalize aL:(K7 l e.name).1=nm at hv aF;clear aL
 rcases(show nm=1\/nm=2\/(nm≠1/\nm≠2) from by omega) with rfl|rfl|⟨n1,n2⟩
 ·replace hv:e.typ l=(1,0):=by rw [hv];rfl
  have HV:=Lib.hid hv;clear hv
  go_enter Tryz.func139,Tryz.ntmps139
  go_wp2_with (first|(go_at_call 148;refine(av _ Jb).mono ?_;rintro r w1 ⟨⟨v,rfl,ae⟩,ac⟩;have ⟨ak,af⟩:=aft ac;(try simp at af);have bV:=alt ac;rw [dS] at ae)|(go_at_call 149;refine(aF _ Jb).mono ?_;rintro r w1 ⟨rfl,ac⟩;have ⟨ak,af⟩:=aft ac;(try simp at af);have bV:=alt ac;(try have eC:=Nat.lt_of_lt_of_le aG ac.size)))
  go_ret2
  exact⟨by rw [HV.out];rfl,Jb⟩
 ·replace hv:e.typ l=(2,0):=by rw [hv];rfl
  have HV:=Lib.hid hv;clear hv
  go_enter Tryz.func139,Tryz.ntmps139
  go_wp2_with (first|(go_at_call 148;refine(av _ Jb).mono ?_;rintro r w1 ⟨⟨v,rfl,ae⟩,ac⟩;have ⟨ak,af⟩:=aft ac;(try simp at af);have bV:=alt ac;rw [dS] at ae)|(go_at_call 149;refine(aF _ Jb).mono ?_;rintro r w1 ⟨rfl,ac⟩;have ⟨ak,af⟩:=aft ac;(try simp at af);have bV:=alt ac;(try have eC:=Nat.lt_of_lt_of_le aG ac.size)))
  go_ret2
  exact⟨by rw [HV.out];rfl,Jb⟩
 ·replace hv:e.typ l=(0,20):=by rw [hv];exact if_neg (by rintro⟨_,h⟩;exact h.elim n1 n2)
  have m1:(nm != 1)=true:=by simpa using n1
  have m2:(nm != 2)=true:=by simpa using n2
  clear n1 n2;have HV:=Lib.hid hv;clear hv
  go_enter Tryz.func139,Tryz.ntmps139
  go_wp2_with (first|(go_at_call 148;refine(av _ Jb).mono ?_;rintro r w1 ⟨⟨v,rfl,ae⟩,ac⟩;have ⟨ak,af⟩:=aft ac;(try simp at af);have bV:=alt ac;rw [dS] at ae)|(go_at_call 149;refine(aF _ Jb).mono ?_;rintro r w1 ⟨rfl,ac⟩;have ⟨ak,af⟩:=aft ac;(try simp at af);have bV:=alt ac;(try have eC:=Nat.lt_of_lt_of_le aG ac.size)))
  go_ret2
  exact⟨by rw [HV.out];rfl,Jb⟩
theorem Kac (e:Ex) (l:List Va) (A:Option Addr) (cap B:Nat) (Ae:Option Addr) (ce:Nat) (w:World) (t0:Int) (hk:e.kind=4) (aU:Ex.typL l e.sub=([t0],0)) (fQ:t0=1\/t0=2) (hn:e.n=1\/e.n=2) (dI:e.name.toList.isEmpty=true)
  (av:Q7 e l A cap B Ae ce w) (aF:Xz e l A cap B w) :
  Calls Tryz.prog 139 #[Q6 l A cap B,exV e Ae ce] w fun r w'=>r = .returned (.tuple #[.int .i64 (e.typ l).1,.int .i64 (e.typ l).2])/\Below w.heap.size w w':=by
 have hv:e.typ l=Y2 l e.kind e.n e.name [t0]:=by rw [Ex.typ_eq,aU];rfl
 rw [hk,Y2,if_neg (by rintro⟨h1,h2⟩;simp_all)] at hv;have dS:(Ex.typL l e.sub).1 = [t0]:=by rw [aU]
 have lG:(Ex.typL l e.sub).2=0:=by rw [aU]
 clear aU;unfold Q7 at av;unfold Xz at aF;have q1:(e.kind == 1)=false:=by rw [hk];rfl
 have q2:(e.kind == 2)=false:=by rw [hk];rfl
 have q3:(e.kind == 3)=false:=by rw [hk];rfl
 have q4:(e.kind == 4)=true:=by rw [hk];rfl
 clear hk;unfold Q6 exV at *
 rcases fQ with rfl|rfl <;> rcases hn with hn|hn <;>
 ·rw [hn] at hv;simp [Je3,Jbl] at hv
  (try have eR:(e.n == 1)=true:=by rw [hn];rfl)
  (try have eR:(e.n == 1)=false:=by rw [hn];rfl)
  (try have eu:(e.n == 2)=true:=by rw [hn];rfl)
  (try have eu:(e.n == 2)=false:=by rw [hn];rfl)
  clear hn;have HV:=Lib.hid hv;clear hv
  go_enter Tryz.func139,Tryz.ntmps139
  go_wp2_with (first|(go_at_call 148;refine(av _ Jb).mono ?_;rintro r w1 ⟨⟨v,rfl,ae⟩,ac⟩;have ⟨ak,af⟩:=aft ac;(try simp at af);have bV:=alt ac;rw [dS] at ae;simp only [List.map_cons,List.map_nil,List.length_cons,List.length_nil,Nat.zero_add,Nat.reduceAdd] at ae;obtain⟨g,gc,rfl,eN,aG,bJ,cg,ah⟩:=Kc ae (by omega);unfold maxLen at cg;have e0:=ah 0 _ rfl;clear ah ae)|(go_at_call 149;refine(aF _ Jb).mono ?_;rintro r w1 ⟨rfl,ac⟩;have ⟨ak,af⟩:=aft ac;(try simp at af);have bV:=alt ac;(try have eC:=Nat.lt_of_lt_of_le aG ac.size)))
  go_ret2
  exact⟨by rw [HV.out];rfl,Jb⟩
def Jg0 (bs bo bw:Nat):Value:= .func (.func 147) #[] #[.pointer (some ⟨bs,0,none⟩),.pointer (some ⟨bo,0,none⟩),.pointer (some ⟨bw,0,none⟩)]
structure NSt (bs bo bw B base:Nat) (W:World) (v:Value) (l:List ByteArray) (d:ByteArray->Option Int) (n N:Nat):Prop where
 seen:W.cell? ⟨bs,0,none⟩=some (.map (some B))
 map:Jz Tryz.prog 9 3 W B n d
 out:W.cell? ⟨bo,0,none⟩=some v
 outf:W.frozen? ⟨bo,0,none⟩=false
 walk:W.cell? ⟨bw,0,none⟩=some (Jg0 bs bo bw)
 own:W.ownsRow base 9 1 v l.length (l.map .string)
 cnt:∀s,(Ka l s=true->1<=(d s).getD 0)/\(Ka l s=false->(d s).getD 0=0)/\(d s).getD 0<=(N:Int)
 size:base<=W.heap.size
theorem NSt.keep {bs bo bw B base:Nat} {W W':World} {v:Value} {l:List ByteArray} {d:ByteArray->Option Int} {n N:Nat} (h:NSt bs bo bw B base W v l d n N) (hs:∀k,k<W.heap.size->W'.heap[k]?=W.heap[k]?) (hz:W.heap.size<=W'.heap.size):NSt bs bo bw B base W' v l d n N:=by
 have hb:∀ {p:Addr} {u:Value},W.cell? p=some u->W'.cell? p=some u:=fun hc=>Jr (hs _ (block_lt_of_cell hc)) hc;exact⟨hb h.seen,h.map.keep hs,hb h.out,(World.frozen?_of_block (a:=⟨bo,0,none⟩) (hs bo (block_lt_of_cell (a:=⟨bo,0,none⟩) h.out))).trans h.outf,hb h.walk,Jpb h.own hs,h.cnt,by have:=h.size;omega⟩
def Jxj (bs bo bw B base:Nat) (w0:World) (x:Ex):Prop:=∀(A:Option Addr) (c:Nat),Jt w0 x A c->∀(W:World) (v:Value) (l:List ByteArray) (d:ByteArray->Option Int) (n N:Nat),Below w0.heap.size w0 W->NSt bs bo bw B base W v l d n N->
  l.length+x.size<=1000000->n+x.size<=1000000->N+x.size<=1000000->
  Calls Tryz.prog 147 #[exV x A c,.pointer (some ⟨bs,0,none⟩),.pointer (some ⟨bo,0,none⟩),.pointer (some ⟨bw,0,none⟩)] W fun r w'=>r = .returned (.tuple #[])/\(∃v' d' n',NSt bs bo bw B base w' v' (x.named l) d' n' (N+x.size)/\n'<=n+x.size/\(v'.ownBlock=v.ownBlock\/∀b,v'.ownBlock=some b->W.heap.size<=b))/\Chg bo B v.ownBlock W w'
theorem Jd2 {bo B base:Nat} {r:Option Nat} {w0 W wr:World} (hb:Below w0.heap.size w0 W) (h:Chg bo B r W wr) (h1:w0.heap.size<=bo) (h2:w0.heap.size<=B) (h3:∀b,r=some b->w0.heap.size<=b):Below w0.heap.size w0 wr:=
 ⟨h.os.trans hb.os,h.tape.trans hb.tape,h.output.trans hb.output,Nat.le_trans hb.size h.size,fun k hk=>(h.block k (Nat.lt_of_lt_of_le hk hb.size) (by omega) (by omega) (fun he=>by have:=h3 k he.symm;omega)).trans (hb.block k hk)⟩
theorem Jg6 {l:List ByteArray} {d:ByteArray->Option Int} {N N':Nat} (h:∀s,(Ka l s=true->1<=(d s).getD 0)/\(Ka l s=false->(d s).getD 0=0)/\(d s).getD 0<=(N:Int)) (hN:N<=N') :
  ∀s,(Ka l s=true->1<=(d s).getD 0)/\(Ka l s=false->(d s).getD 0=0)/\(d s).getD 0<=(N':Int):=fun s=>⟨(h s).1,(h s).2.1,by have:=(h s).2.2;omega⟩
theorem Jyp {l:List ByteArray} {d:ByteArray->Option Int} {N:Nat} {s0:ByteArray} (h:∀s,(Ka l s=true->1<=(d s).getD 0)/\(Ka l s=false->(d s).getD 0=0)/\(d s).getD 0<=(N:Int)) (h0:s0.toList.isEmpty=false) :
  ∀s,(Ka (Yw l s0) s=true->1<=((upd d s0 ((d s0).getD 0+1)) s).getD 0)/\(Ka (Yw l s0) s=false->((upd d s0 ((d s0).getD 0+1)) s).getD 0=0)/\((upd d s0 ((d s0).getD 0+1)) s).getD 0<=((N+1:Nat):Int):=by
 intro s;have hs:=h s;have h00:=h s0
 have hpos:0<=(d s0).getD 0:=by
  cases hb:Ka l s0
  ·rw [h00.2.1 hb];omega
  ·have:=h00.1 hb;omega
 unfold upd
 by_cases hd:s.data=s0.data
 ·have he:s=s0:=by ext1;exact hd
  subst he;rw [if_pos rfl];simp only [Option.getD_some]
  have dV:Ka (Yw l s) s=true:=by
   unfold Yw;rw [h0,if_neg (by simp)]
   cases hb:Ka l s
   ·rw [if_neg (by simp),Jcx];simp
   ·rw [if_pos rfl];exact hb
  refine⟨fun _=>by omega,fun hf=>by rw [dV] at hf;simp at hf,by have:=hs.2.2;omega⟩
 ·rw [if_neg hd]
  have aS:(s0.toList == s.toList)=false:=by
   cases hb:(s0.toList == s.toList)
   ·rfl
   ·have:s0=s:=Zf.1 hb;exact absurd (by rw [this]) hd
  have bF:Ka (Yw l s0) s=Ka l s:=by
   unfold Yw;rw [h0,if_neg (by simp)]
   cases hb:Ka l s0
   ·rw [if_neg (by simp),Jcx,aS,Bool.or_false]
   ·rw [if_pos rfl]
  rw [bF];exact⟨hs.1,hs.2.1,by have:=hs.2.2;omega⟩
theorem Jvx (bs bo bw B base:Nat) (uL:bs<base) (cW:bo<base) (aC:bw<base) (hB:B<base) (n1:bs≠bo) (n2:bs≠B) (n3:bw≠bo) (n4:bw≠B) (n5:bo≠B) (w0:World) (m1:w0.heap.size<=bo) (m2:w0.heap.size<=B) (m3:w0.heap.size<=base) (e:Ex):e.OK->Jxj bs bo bw B base w0 e:=by
 induction e using Ex.ind with
 | h e ih0=>
 intro aw Ae ce he W v l d n N dZ cP bC bd hs3;have ih:∀x∈e.sub,Jxj bs bo bw B base w0 x:=fun x hx=>ih0 x hx (Ex.OK_sub aw hx);have fE:e.name.size<=maxLen:=by cases e;exact aw.2.2.1
 clear ih0 aw;have ai:=he.len;unfold maxLen at ai;obtain⟨bI,aD⟩:=ai;have rT:Ex.sizeL e.sub+1<=e.size:=by have:=Ex.size_eq e;omega
 have hsz2:e.size<=Ex.sizeL e.sub+1:=by have:=Ex.size_eq e;omega
 have cQ:=Jj5 l e.name;have bH:=Lib.hid (Ex.named_eq l e);obtain⟨c1,c2,c3,c4,c5,c6,c7,c8⟩:=cP;obtain⟨ji,je,hq3⟩:=c7 e.name;have C7:=Lib.hid c7;clear c7;have hU:=Lib.hid (fun b hb=>c6.lt b hb);have hBW:=c2.lt;unfold exV Jg0 at *
 cases aL:e.name.toList.isEmpty
 case true=>
  have fw:Yw l e.name=l:=by unfold Yw;rw [if_pos aL]
  rw [fw] at bH cQ;clear fw
  go_enter Tryz.func147,Tryz.ntmps147
  go_wp2_with fail
  refine Jo fun W0 ag=>?_
  have jx:NSt bs bo bw B base W0 v l d n (N+1):=by
   have:=NSt.keep (W':=W0) ⟨c1,c2,c3,c4,c5,c6,C7.out,c8⟩ (fun k hk=>by rw [ag];exact heap_alloc_old W _ hk) (by rw [ag];simp);exact⟨this.seen,this.map,this.out,this.outf,this.walk,this.own,Jg6 this.cnt (by omega),this.size⟩
  have iW:v.ownBlock=v.ownBlock\/∀b,v.ownBlock=some b->W.heap.size<=b:= .inl rfl;have lh:Chg bo B v.ownBlock W W0:=by rw [ag];exact Chg.bel (Jc (Below.refl _ _) _)
  have bD:W.heap.size<=W0.heap.size:=by rw [ag];simp
  have bg:n<=n+1:=by omega
  clear ag c1 c2 c3 c4 c5 c6
  go_loopw [28] (fun i wr=>∃(k:Nat) (V:Value) (l2:List ByteArray) (d2:ByteArray->Option Int) (n2 N2:Nat),k<=e.sub.length/\i = .int .i64 k/\Ex.namedL l2 (e.sub.drop k)=e.named l/\NSt bs bo bw B base wr V l2 d2 n2 N2/\(V.ownBlock=v.ownBlock\/∀b,V.ownBlock=some b->W.heap.size<=b)/\Chg bo B v.ownBlock W wr/\l2.length+Ex.sizeL (e.sub.drop k)<=1000000/\n2+Ex.sizeL (e.sub.drop k)<=n+e.size/\N2+Ex.sizeL (e.sub.drop k)<=N+e.size) (fun i _=>e.sub.length-(intOf i).toNat)
  case atStart=>exact⟨0,v,l,d,n,N+1,Nat.zero_le _,rfl,by rw [bH.out];rfl,jx,iW,lh,by rw [List.drop_zero];omega,by rw [List.drop_zero];omega,by rw [List.drop_zero];omega⟩
  case round=>
   obtain⟨k,V,l2,d2,n2,N2,hk,rfl,aa,cV,ch,dK,ac,aq,aM⟩:=hrel;have cX:Below w0.heap.size w0 wr:=Jd2 (base:=base) dZ dK m1 m2 (fun b hb=>by have:=(hU.out b hb).1;omega);have hkz:=dK.size;have hbsz:=cV.size
   by_cases am:k<e.sub.length
   ·have hx:e.sub[k]?=some e.sub[k]:=List.getElem?_eq_getElem am;have aj:e.sub[k]∈e.sub:=List.getElem_mem am;have hd:e.sub.drop k=e.sub[k] :: e.sub.drop (k+1):=List.drop_eq_getElem_cons am;generalize e.sub[k]=x at hx aj hd;obtain⟨b,off,A',cap',rfl,x0,x1,x2,x3,hs⟩:=he.get hx;have x0':=Ja cX x0;have x1':=Ja cX x1;have x2':=Ja cX x2;have x3':=Ja cX x3;have hwk:=cV.walk;unfold Jg0 at hwk;have hbwz:bw<wr.heap.size:=by omega
    rw [hd,Ex.namedL] at aa;rw [hd,Ex.sizeL] at ac aq aM;have jV:=Ex.named_len x l2;have az:=fun W' (lE:Below wr.heap.size wr W')=>ih x aj A' cap' hs W' V l2 d2 n2 N2 (cX.trans (lE.mono cX.size)) (cV.keep (fun k hk=>lE.block k hk) lE.size) (by omega) (by omega) (by omega);have cJ:=Lib.hid cV;have HR:=Lib.hid aa;have fO:=Lib.hid ch;have jy:=Lib.hid dK;clear aa hd hx x0 x1 x2 x3 ch dK cV
    go_wp2_with (first|(go_at_call 147;go_loud (refine(az _ Jb).mono ?_;rintro r w3 ⟨rfl,⟨v3,d3,n3,ft,sR,fv⟩,ja⟩)))
    go_roundw
    case rel=>
     have kI:=ja.size;refine⟨k+1,v3,x.named l2,d3,n3,N2+x.size,by omega,by go_num,HR.out,ft,?_,?_,by omega,by omega,by omega⟩
     ·rcases fv with h3|h3
      ·rw [h3];exact fO.out
      ·exact .inr fun b hb=>by have:=h3 b hb;simp at this;omega
     ·refine jy.out.trans (Chg.trans (Chg.bel (Jc (Below.refl _ _) _)) ja (.inl rfl)) ?_;exact fO.out
    case measure=>simp [intOf];omega
   ·obtain rfl:k=e.sub.length:=by omega
    rw [List.drop_length,Ex.namedL] at aa;rw [List.drop_length,Ex.sizeL] at ac aq aM;subst aa;have cJ:=Lib.hid cV;have fO:=Lib.hid ch;have jy:=Lib.hid dK;clear ch dK cV
    go_wp2_with fail
    go_end0
    exact⟨rfl,⟨V,d2,n2,⟨cJ.out.seen,cJ.out.map,cJ.out.out,cJ.out.outf,cJ.out.walk,cJ.out.own,Jg6 cJ.out.cnt (by omega),cJ.out.size⟩,by omega,fO.out⟩,jy.out⟩
 case false=>
  have hN:(N:Int)<=1000000:=by omega
  have hbsw:bs<W.heap.size:=by omega
  have hbow:bo<W.heap.size:=by omega
  have hbww:bw<W.heap.size:=by omega
  have hC:=Lib.hid (Jyp (s0:=e.name) C7.out aL)
  have HNE:=Lib.hid (show ∀b,b<base->v.ownBlock=none\/v.ownBlock≠some b from fun b hb=>by
   cases hv:v.ownBlock with
   | none=>exact .inl rfl
   | some g=>
    right
    intro he;injection he with he;have:=(hU.out g hv).1;omega)
  have lp:((upd d e.name ((d e.name).getD 0+1)) e.name).getD 0=(d e.name).getD 0+1:=by unfold upd;rw [if_pos rfl];rfl
  cases hh:Ka l e.name
  case true=>
   have fw:Yw l e.name=l:=by unfold Yw;rw [aL,if_neg (by simp),if_pos hh]
   have iv:=ji hh;have ht:((((upd d e.name ((d e.name).getD 0+1)) e.name).getD 0) == 1)=false:=by rw [lp];simp;omega
   rw [fw] at bH cQ hC;clear fw hh lp ji je
   go_enter Tryz.func147,Tryz.ntmps147
   go_wp2_with (first|(at_lookup;refine Qb rfl (.tmp _) (.tmp _) 177 rfl Tryz.underlying9 Tryz.underlying177 Tryz.underlying3 (Kj _) B n d e.name rfl (by with_reducible exact Jz.alloc c2) rfl fE ?_)|(at_mapUpdate;go_loud (refine Jau rfl (.tmp 10) (.tmp 12) (.tmp 14) 177 rfl Tryz.underlying9 Tryz.underlying177 Tryz.underlying3 B n d e.name ((d e.name).getD 0+1) rfl (by repeat (first|(with_reducible assumption)|refine Jz.alloc ?_|refine Jz.bel ?_ (by with_reducible assumption)|refine Jz.drew ?_)) (by omega) rfl rfl fE (by omega) ?_;intro w2 cI aG;have br:W.heap.size+1<=w2.heap.size:=(by have:=aG.size;simpa using this);have dz:=(fun b (h1:b<W.heap.size+1) (h2:b≠B)=>aG.block b (by simpa using h1) (by simpa using h2));have kz2:w2.cell? ⟨W.heap.size,2,none⟩=some (.string e.name):=Jr (dz W.heap.size (by omega) (by omega)) (by go_simp);have kz3:w2.cell? ⟨W.heap.size,3,none⟩=some (.slice Ae e.sub.length ce):=Jr (dz W.heap.size (by omega) (by omega)) (by go_simp);have ks:w2.cell? ⟨bs,0,none⟩=some (.map (some B)):=Jr (dz bs (by omega) n2) (Ja (Jc (Below.refl _ _) _) c1);have ko:w2.cell? ⟨bo,0,none⟩=some v:=Jr (dz bo (by omega) n5) (Ja (Jc (Below.refl _ _) _) c3);have kof:w2.frozen? ⟨bo,0,none⟩=false:=((World.frozen?_of_block (a:=⟨bo,0,none⟩) (dz bo (by omega) n5)).trans (((Jc (Below.refl _ _) _).frozen (p:=⟨bo,0,none⟩) (show bo<W.heap.size by omega)).trans c4));have kw:w2.cell? ⟨bw,0,none⟩=some (Jg0 bs bo bw):=Jr (dz bw (by omega) n4) (Ja (Jc (Below.refl _ _) _) c5);have jJ:=(Js c6 (o:=_)).kept aG (HNE.out B hB);have HK2:=Lib.hid dz;have kr:=Lib.hid aG;have KW:=Lib.hid kw;clear dz aG kw c1 c3 c4 c5))|(at_lookup;refine Qb rfl (.tmp _) (.tmp _) 177 rfl Tryz.underlying9 Tryz.underlying177 Tryz.underlying3 (Kj _) B (n+1) (upd d e.name ((d e.name).getD 0+1)) e.name rfl (by with_reducible exact cI) rfl fE ?_))
   refine Jo fun W0 ag=>?_
   have jx:NSt bs bo bw B base W0 v l (upd d e.name ((d e.name).getD 0+1)) (n+1) (N+1):=by
    rw [ag];exact⟨ks,cI,ko,kof,KW.out,jJ,hC.out,by omega⟩
   have iW:v.ownBlock=v.ownBlock\/∀b,v.ownBlock=some b->W.heap.size<=b:= .inl rfl;have lh:Chg bo B v.ownBlock W W0:=by rw [ag];exact Chg.trans (Chg.bel (Jc (Below.refl _ _) _)) (Chg.grown kr.out (.inr (.inl rfl))) (.inl rfl)
   have bD:W.heap.size<=W0.heap.size:=by rw [ag];omega
   have bg:n+1<=n+1:=by omega
   clear ag ks cI ko kof kz2 kz3 jJ
   go_loopw [28] (fun i wr=>∃(k:Nat) (V:Value) (l2:List ByteArray) (d2:ByteArray->Option Int) (n2 N2:Nat),k<=e.sub.length/\i = .int .i64 k/\Ex.namedL l2 (e.sub.drop k)=e.named l/\NSt bs bo bw B base wr V l2 d2 n2 N2/\(V.ownBlock=v.ownBlock\/∀b,V.ownBlock=some b->W.heap.size<=b)/\Chg bo B v.ownBlock W wr/\l2.length+Ex.sizeL (e.sub.drop k)<=1000000/\n2+Ex.sizeL (e.sub.drop k)<=n+e.size/\N2+Ex.sizeL (e.sub.drop k)<=N+e.size) (fun i _=>e.sub.length-(intOf i).toNat)
   case atStart=>exact⟨0,v,l,(upd d e.name ((d e.name).getD 0+1)),(n+1),N+1,Nat.zero_le _,rfl,by rw [bH.out];rfl,jx,iW,lh,by rw [List.drop_zero];omega,by rw [List.drop_zero];omega,by rw [List.drop_zero];omega⟩
   case round=>
    obtain⟨k,V,l2,d2,n2,N2,hk,rfl,aa,cV,ch,dK,ac,aq,aM⟩:=hrel;have cX:Below w0.heap.size w0 wr:=Jd2 (base:=base) dZ dK m1 m2 (fun b hb=>by have:=(hU.out b hb).1;omega);have hkz:=dK.size;have hbsz:=cV.size
    by_cases am:k<e.sub.length
    ·have hx:e.sub[k]?=some e.sub[k]:=List.getElem?_eq_getElem am;have aj:e.sub[k]∈e.sub:=List.getElem_mem am;have hd:e.sub.drop k=e.sub[k] :: e.sub.drop (k+1):=List.drop_eq_getElem_cons am;generalize e.sub[k]=x at hx aj hd;obtain⟨b,off,A',cap',rfl,x0,x1,x2,x3,hs⟩:=he.get hx;have x0':=Ja cX x0;have x1':=Ja cX x1;have x2':=Ja cX x2;have x3':=Ja cX x3;have hwk:=cV.walk;unfold Jg0 at hwk;have hbwz:bw<wr.heap.size:=by omega
     rw [hd,Ex.namedL] at aa;rw [hd,Ex.sizeL] at ac aq aM;have jV:=Ex.named_len x l2;have az:=fun W' (lE:Below wr.heap.size wr W')=>ih x aj A' cap' hs W' V l2 d2 n2 N2 (cX.trans (lE.mono cX.size)) (cV.keep (fun k hk=>lE.block k hk) lE.size) (by omega) (by omega) (by omega);have cJ:=Lib.hid cV;have HR:=Lib.hid aa;have fO:=Lib.hid ch;have jy:=Lib.hid dK;clear aa hd hx x0 x1 x2 x3 ch dK cV
     go_wp2_with (first|(go_at_call 147;go_loud (refine(az _ Jb).mono ?_;rintro r w3 ⟨rfl,⟨v3,d3,n3,ft,sR,fv⟩,ja⟩)))
     go_roundw
     case rel=>
      have kI:=ja.size;refine⟨k+1,v3,x.named l2,d3,n3,N2+x.size,by omega,by go_num,HR.out,ft,?_,?_,by omega,by omega,by omega⟩
      ·rcases fv with h3|h3
       ·rw [h3];exact fO.out
       ·exact .inr fun b hb=>by have:=h3 b hb;simp at this;omega
      ·refine jy.out.trans (Chg.trans (Chg.bel (Jc (Below.refl _ _) _)) ja (.inl rfl)) ?_;exact fO.out
     case measure=>simp [intOf];omega
    ·obtain rfl:k=e.sub.length:=by omega
     rw [List.drop_length,Ex.namedL] at aa;rw [List.drop_length,Ex.sizeL] at ac aq aM;subst aa;have cJ:=Lib.hid cV;have fO:=Lib.hid ch;have jy:=Lib.hid dK;clear ch dK cV
     go_wp2_with fail
     go_end0
     exact⟨rfl,⟨V,d2,n2,⟨cJ.out.seen,cJ.out.map,cJ.out.out,cJ.out.outf,cJ.out.walk,cJ.out.own,Jg6 cJ.out.cnt (by omega),cJ.out.size⟩,by omega,fO.out⟩,jy.out⟩
  case false=>
   have fw:Yw l e.name=l ++ [e.name]:=by unfold Yw;rw [aL,if_neg (by simp),if_neg (by simp [hh])]
   have iv:=je hh;have hq00:0<=(d e.name).getD 0:=by omega
   have ht:((((upd d e.name ((d e.name).getD 0+1)) e.name).getD 0) == 1)=true:=by rw [lp];simp;omega
   have HQ0:=Lib.hid iv;rw [fw] at bH cQ hC;clear fw hh lp ji je iv
   go_enter Tryz.func147,Tryz.ntmps147
   go_wp2_with (first|(at_lookup;refine Qb rfl (.tmp _) (.tmp _) 177 rfl Tryz.underlying9 Tryz.underlying177 Tryz.underlying3 (Kj _) B n d e.name rfl (by with_reducible exact Jz.alloc c2) rfl fE ?_)|(at_mapUpdate;go_loud (refine Jau rfl (.tmp 10) (.tmp 12) (.tmp 14) 177 rfl Tryz.underlying9 Tryz.underlying177 Tryz.underlying3 B n d e.name ((d e.name).getD 0+1) rfl (by repeat (first|(with_reducible assumption)|refine Jz.alloc ?_|refine Jz.bel ?_ (by with_reducible assumption)|refine Jz.drew ?_)) (by omega) rfl rfl fE (by omega) ?_;intro w2 cI aG;have br:W.heap.size+1<=w2.heap.size:=(by have:=aG.size;simpa using this);have dz:=(fun b (h1:b<W.heap.size+1) (h2:b≠B)=>aG.block b (by simpa using h1) (by simpa using h2));have kz2:w2.cell? ⟨W.heap.size,2,none⟩=some (.string e.name):=Jr (dz W.heap.size (by omega) (by omega)) (by go_simp);have kz3:w2.cell? ⟨W.heap.size,3,none⟩=some (.slice Ae e.sub.length ce):=Jr (dz W.heap.size (by omega) (by omega)) (by go_simp);have ks:w2.cell? ⟨bs,0,none⟩=some (.map (some B)):=Jr (dz bs (by omega) n2) (Ja (Jc (Below.refl _ _) _) c1);have ko:w2.cell? ⟨bo,0,none⟩=some v:=Jr (dz bo (by omega) n5) (Ja (Jc (Below.refl _ _) _) c3);have kof:w2.frozen? ⟨bo,0,none⟩=false:=((World.frozen?_of_block (a:=⟨bo,0,none⟩) (dz bo (by omega) n5)).trans (((Jc (Below.refl _ _) _).frozen (p:=⟨bo,0,none⟩) (show bo<W.heap.size by omega)).trans c4));have kw:w2.cell? ⟨bw,0,none⟩=some (Jg0 bs bo bw):=Jr (dz bw (by omega) n4) (Ja (Jc (Below.refl _ _) _) c5);have jJ:=(Js c6 (o:=_)).kept aG (HNE.out B hB);have HK2:=Lib.hid dz;have kr:=Lib.hid aG;have KW:=Lib.hid kw;clear dz aG kw c1 c3 c4 c5))|(at_lookup;refine Qb rfl (.tmp _) (.tmp _) 177 rfl Tryz.underlying9 Tryz.underlying177 Tryz.underlying3 (Kj _) B (n+1) (upd d e.name ((d e.name).getD 0+1)) e.name rfl (by with_reducible exact cI) rfl fE ?_)|(at_builtin;go_loud (refine Z2 rfl (.tmp 20) (.tmp 23) 119 rfl base 9 _ 1 16 Tryz.underlying119 Zq rfl (by omega) v l.length (l.map .string) w2.heap.size 1 1 [.string e.name] rfl (Js jJ) rfl rfl (fun j u hj=>by rw [Qo rfl];simpa using hj) (by simp [Value.oneCell']) (by omega) (by omega) (by simp;omega) ?_;intro v3 w3 aE bJ iM;have fe:w2.heap.size+1<=w3.heap.size:=(by have:=bJ.size;simpa using this);have dU:=(fun b (h1:b<base)=>Jii jJ (by omega) (Jc (Below.refl _ _) _) bJ b h1);have ks3:w3.cell? ⟨bs,0,none⟩=some (.map (some B)):=Jr (dU bs uL) ks;have ko3:w3.cell? ⟨bo,0,none⟩=some v:=Jr (dU bo cW) ko;have kof3:w3.frozen? ⟨bo,0,none⟩=false:=((World.frozen?_of_block (a:=⟨bo,0,none⟩) (dU bo cW)).trans kof);have kw3:w3.cell? ⟨bw,0,none⟩=some (Jg0 bs bo bw):=Jr (dU bw aC) KW.out;have kz3':w3.cell? ⟨W.heap.size,3,none⟩=some (.slice Ae e.sub.length ce):=Jr ((bJ.block W.heap.size (by simp;omega) (fun he=>by have:=(hU.out _ he.symm).2;omega)).trans (heap_alloc_old _ _ (by omega))) kz3;have kV:=cI.keep1 (dU B hB);obtain⟨A3,cv3,rfl,it,iu⟩:=Jv aE;have HG3:=Lib.hid bJ;have HM3:=Lib.hid kV;have HO3:=Lib.hid aE;have KW3:=Lib.hid kw3;have HV3:=Lib.hid iM;clear bJ dU kV aE kw3 iM)))
   refine Jo fun W0 ag=>?_
   have jx:NSt bs bo bw B base W0 (.slice A3 (l.length+1) cv3) (l ++ [e.name]) (upd d e.name ((d e.name).getD 0+1)) (n+1) (N+1):=by
    rw [ag];refine⟨?_,HM3.out.keep1 (heap_setCell_other w3 ⟨bo,0,none⟩ B _ (fun h=>n5 h.symm)),World.cell?_setCell_same _ _ _ ko3,(World.frozen?_setCell ..).trans kof3,?_,?_,hC.out,by simp;omega⟩
    ·exact(World.cell?_setCell_other _ _ _ _ (by intro h;injection h with h1;exact n1 h1.symm)).trans ks3
    ·exact(World.cell?_setCell_other _ _ _ _ (by intro h;injection h with h1;exact n3 h1.symm)).trans KW3.out
    ·rw [List.map_append,List.length_append];exact Jbd HO3.out cW _ _
   have iW:(Value.slice A3 (l.length+1) cv3).ownBlock=v.ownBlock\/∀b,(Value.slice A3 (l.length+1) cv3).ownBlock=some b->W.heap.size<=b:=by
    rcases HV3.out with h|h
    ·exact .inl h
    ·exact .inr fun b hb=>by have:=h b hb;simp at this;omega
   have lh:Chg bo B v.ownBlock W W0:=by
    rw [ag];exact(Chg.trans (Chg.trans (Chg.trans (Chg.bel (Jc (Below.refl _ _) _)) (Chg.grown kr.out (.inr (.inl rfl)) (r:=v.ownBlock)) (.inl rfl)) (Chg.bel (Jc (Below.refl _ _) _) (r:=v.ownBlock)) (.inl rfl)) (Chg.grown HG3.out (.inr (.inr rfl))) (.inl rfl)).setCell _ _
   have bD:W.heap.size<=W0.heap.size:=by rw [ag];simp;omega
   have bg:n+1<=n+1:=by omega
   clear ag ks cI ko kof kz2 kz3 jJ ks3 ko3 kof3 kz3'
   go_loopw [28] (fun i wr=>∃(k:Nat) (V:Value) (l2:List ByteArray) (d2:ByteArray->Option Int) (n2 N2:Nat),k<=e.sub.length/\i = .int .i64 k/\Ex.namedL l2 (e.sub.drop k)=e.named l/\NSt bs bo bw B base wr V l2 d2 n2 N2/\(V.ownBlock=v.ownBlock\/∀b,V.ownBlock=some b->W.heap.size<=b)/\Chg bo B v.ownBlock W wr/\l2.length+Ex.sizeL (e.sub.drop k)<=1000000/\n2+Ex.sizeL (e.sub.drop k)<=n+e.size/\N2+Ex.sizeL (e.sub.drop k)<=N+e.size) (fun i _=>e.sub.length-(intOf i).toNat)
   case atStart=>exact⟨0,(.slice A3 (l.length+1) cv3),(l ++ [e.name]),(upd d e.name ((d e.name).getD 0+1)),(n+1),N+1,Nat.zero_le _,rfl,by rw [bH.out];rfl,jx,iW,lh,by rw [List.drop_zero];omega,by rw [List.drop_zero];omega,by rw [List.drop_zero];omega⟩
   case round=>
    obtain⟨k,V,l2,d2,n2,N2,hk,rfl,aa,cV,ch,dK,ac,aq,aM⟩:=hrel;have cX:Below w0.heap.size w0 wr:=Jd2 (base:=base) dZ dK m1 m2 (fun b hb=>by have:=(hU.out b hb).1;omega);have hkz:=dK.size;have hbsz:=cV.size
    by_cases am:k<e.sub.length
    ·have hx:e.sub[k]?=some e.sub[k]:=List.getElem?_eq_getElem am;have aj:e.sub[k]∈e.sub:=List.getElem_mem am;have hd:e.sub.drop k=e.sub[k] :: e.sub.drop (k+1):=List.drop_eq_getElem_cons am;generalize e.sub[k]=x at hx aj hd;obtain⟨b,off,A',cap',rfl,x0,x1,x2,x3,hs⟩:=he.get hx;have x0':=Ja cX x0;have x1':=Ja cX x1;have x2':=Ja cX x2;have x3':=Ja cX x3;have hwk:=cV.walk;unfold Jg0 at hwk;have hbwz:bw<wr.heap.size:=by omega
     rw [hd,Ex.namedL] at aa;rw [hd,Ex.sizeL] at ac aq aM;have jV:=Ex.named_len x l2;have az:=fun W' (lE:Below wr.heap.size wr W')=>ih x aj A' cap' hs W' V l2 d2 n2 N2 (cX.trans (lE.mono cX.size)) (cV.keep (fun k hk=>lE.block k hk) lE.size) (by omega) (by omega) (by omega);have cJ:=Lib.hid cV;have HR:=Lib.hid aa;have fO:=Lib.hid ch;have jy:=Lib.hid dK;clear aa hd hx x0 x1 x2 x3 ch dK cV
     go_wp2_with (first|(go_at_call 147;go_loud (refine(az _ Jb).mono ?_;rintro r w3 ⟨rfl,⟨v3,d3,n3,ft,sR,fv⟩,ja⟩)))
     go_roundw
     case rel=>
      have kI:=ja.size;refine⟨k+1,v3,x.named l2,d3,n3,N2+x.size,by omega,by go_num,HR.out,ft,?_,?_,by omega,by omega,by omega⟩
      ·rcases fv with h3|h3
       ·rw [h3];exact fO.out
       ·exact .inr fun b hb=>by have:=h3 b hb;simp at this;omega
      ·refine jy.out.trans (Chg.trans (Chg.bel (Jc (Below.refl _ _) _)) ja (.inl rfl)) ?_;exact fO.out
     case measure=>simp [intOf];omega
    ·obtain rfl:k=e.sub.length:=by omega
     rw [List.drop_length,Ex.namedL] at aa;rw [List.drop_length,Ex.sizeL] at ac aq aM;subst aa;have cJ:=Lib.hid cV;have fO:=Lib.hid ch;have jy:=Lib.hid dK;clear ch dK cV
     go_wp2_with fail
     go_end0
     exact⟨rfl,⟨V,d2,n2,⟨cJ.out.seen,cJ.out.map,cJ.out.out,cJ.out.outf,cJ.out.walk,cJ.out.own,Jg6 cJ.out.cnt (by omega),cJ.out.size⟩,by omega,fO.out⟩,jy.out⟩
end Go.Proofs.YtdgjplldlfeolaaGreatDoor
