/- Lemmas. -/
import Derived.Test.YtknfcamdfdfoeaaGreatDoorMac
import Derived.Test.YtknfcamdfdfoeaaGreatDoorZ07
import Derived.Test.YtknfcamdfdfoeaaGreatDoorRows
import Derived.Test.YtknfcamdfdfoeaaGreatDoorZ00
import Derived.Test.YtknfcamdfdfoeaaGreatDoorZ03
set_option linter.unusedVariables false
set_option linter.unusedSimpArgs false
set_option maxRecDepth 100000
set_option maxHeartbeats 64000000
namespace Go.Proofs.YtknfcamdfdfoeaaGreatDoor
open Go.RowKit Go.Sort
def Jg0 (bs bo bw:Nat):Value:= .func (.func 116) #[] #[.pointer (some ⟨bs,0,none⟩),.pointer (some ⟨bo,0,none⟩),.pointer (some ⟨bw,0,none⟩)]
structure NSt (bs bo bw B base:Nat) (W:World) (v:Value) (l:List ByteArray) (d:ByteArray->Option Int) (n N:Nat):Prop where
 seen:W.cell? ⟨bs,0,none⟩=some (.map (some B))
 map:Jz Tryz.prog 9 3 W B n d
 out:W.cell? ⟨bo,0,none⟩=some v
 outf:W.frozen? ⟨bo,0,none⟩=false
 walk:W.cell? ⟨bw,0,none⟩=some (Jg0 bs bo bw)
 own:W.ownsRow base 9 1 v l.length (l.map .string)
 cnt:∀s,(Ka l s=true->1<=(d s).getD 0)/\(Ka l s=false->(d s).getD 0=0)/\(d s).getD 0<=(N:Int)
 size:base<=W.heap.size
theorem NSt.keep {bs bo bw B base:Nat} {W W':World} {v:Value} {l:List ByteArray} {d:ByteArray->Option Int} {n N:Nat} (h:NSt bs bo bw B base W v l d n N) (hs:∀k,k<W.heap.size->W'.heap[k]?=W.heap[k]?) (hz:W.heap.size<=W'.heap.size):NSt bs bo bw B base W' v l d n N:=by
 have hb:∀ {p:Addr} {u:Value},W.cell? p=some u->W'.cell? p=some u:=fun hc=>Jr (hs _ (block_lt_of_cell hc)) hc;exact⟨hb h.seen,h.map.keep hs,hb h.out,(World.frozen?_of_block (a:=⟨bo,0,none⟩) (hs bo (block_lt_of_cell (a:=⟨bo,0,none⟩) h.out))).trans h.outf,hb h.walk,Jpb h.own hs,h.cnt,by have:=h.size;omega⟩
def Jxj (bs bo bw B base:Nat) (w0:World) (x:Ex):Prop:=∀(A:Option Addr) (c:Nat),Jt w0 x A c->∀(W:World) (v:Value) (l:List ByteArray) (d:ByteArray->Option Int) (n N:Nat),Below w0.heap.size w0 W->NSt bs bo bw B base W v l d n N->
  l.length+x.size<=1000000->n+x.size<=1000000->N+x.size<=1000000->
  Calls Tryz.prog 116 #[exV x A c,.pointer (some ⟨bs,0,none⟩),.pointer (some ⟨bo,0,none⟩),.pointer (some ⟨bw,0,none⟩)] W fun r w'=>r = .returned (.tuple #[])/\(∃v' d' n',NSt bs bo bw B base w' v' (x.named l) d' n' (N+x.size)/\n'<=n+x.size/\(v'.ownBlock=v.ownBlock\/∀b,v'.ownBlock=some b->W.heap.size<=b))/\Chg bo B v.ownBlock W w'
theorem Jd2 {bo B base:Nat} {r:Option Nat} {w0 W wr:World} (hb:Below w0.heap.size w0 W) (h:Chg bo B r W wr) (h1:w0.heap.size<=bo) (h2:w0.heap.size<=B) (h3:∀b,r=some b->w0.heap.size<=b):Below w0.heap.size w0 wr:=
 ⟨h.os.trans hb.os,h.tape.trans hb.tape,h.output.trans hb.output,Nat.le_trans hb.size h.size,fun k hk=>(h.block k (Nat.lt_of_lt_of_le hk hb.size) Ua Ua (fun he=>by have:=h3 k he.symm;omega)).trans (hb.block k hk)⟩
theorem Jg6 {l:List ByteArray} {d:ByteArray->Option Int} {N N':Nat} (h:∀s,(Ka l s=true->1<=(d s).getD 0)/\(Ka l s=false->(d s).getD 0=0)/\(d s).getD 0<=(N:Int)) (hN:N<=N') :
  ∀s,(Ka l s=true->1<=(d s).getD 0)/\(Ka l s=false->(d s).getD 0=0)/\(d s).getD 0<=(N':Int):=fun s=>⟨(h s).1,(h s).2.1,by have:=(h s).2.2;omega⟩
theorem Jyp {l:List ByteArray} {d:ByteArray->Option Int} {N:Nat} {s0:ByteArray} (h:∀s,(Ka l s=true->1<=(d s).getD 0)/\(Ka l s=false->(d s).getD 0=0)/\(d s).getD 0<=(N:Int)) (h0:s0.toList.isEmpty=false) :
  ∀s,(Ka (Yw l s0) s=true->1<=((upd d s0 ((d s0).getD 0+1)) s).getD 0)/\(Ka (Yw l s0) s=false->((upd d s0 ((d s0).getD 0+1)) s).getD 0=0)/\((upd d s0 ((d s0).getD 0+1)) s).getD 0<=((N+1:Nat):Int):=by
 intro s;have hs:=h s;have h00:=h s0
 have hpos:0<=(d s0).getD 0:=by
  cases hb:Ka l s0
  ·rw [h00.2.1 hb];omega
  ·have:=h00.1 hb;omega
 unfold upd
 by_cases hd:s.data=s0.data
 ·have he:s=s0:=by ext1;exact hd
  subst he;rw [if_pos rfl];simp only [Option.getD_some]
  have dV:Ka (Yw l s) s=true:=by
   unfold Yw;rw [h0,if_neg Ul]
   cases hb:Ka l s
   ·rw [if_neg Ul,Jcx];simp
   ·rw [if_pos rfl];exact hb
  refine⟨fun _=>Ua,fun hf=>by rw [dV] at hf;simp at hf,by have:=hs.2.2;omega⟩
 ·rw [if_neg hd]
  have aS:(s0.toList == s.toList)=false:=by
   cases hb:(s0.toList == s.toList)
   ·exact Gd
   ·have:s0=s:=Zf.1 hb;exact absurd (by rw [this]) hd
  have bF:Ka (Yw l s0) s=Ka l s:=by
   unfold Yw;rw [h0,if_neg Ul]
   cases hb:Ka l s0
   ·rw [if_neg Ul,Jcx,aS,Bool.or_false]
   ·rw [if_pos rfl]
  rw [bF];exact⟨hs.1,hs.2.1,by have:=hs.2.2;omega⟩
theorem Jvx (bs bo bw B base:Nat) (uL:bs<base) (cW:bo<base) (aC:bw<base) (hB:B<base) (n1:bs≠bo) (n2:bs≠B) (n3:bw≠bo) (n4:bw≠B) (n5:bo≠B) (w0:World) (m1:w0.heap.size<=bo) (m2:w0.heap.size<=B) (m3:w0.heap.size<=base) (e:Ex):e.OK->Jxj bs bo bw B base w0 e:=by
 induction e using Ex.ind with
 | h e ih0=>
 intro aw Ae ce he W v l d n N dZ cP bC bd hs3;have ih:∀x∈e.sub,Jxj bs bo bw B base w0 x:=fun x hx=>ih0 x hx (Ex.OK_sub aw hx);have fE:e.name.size<=maxLen:=by cases e;exact aw.2.2.1
 clear ih0 aw;have ai:=he.len;unfold maxLen at ai;obtain⟨bI,aD⟩:=ai;have rT:Ex.sizeL e.sub+1<=e.size:=by have:=Ex.size_eq e;omega
 have hsz2:e.size<=Ex.sizeL e.sub+1:=by have:=Ex.size_eq e;omega
 have cQ:=Jj5 l e.name;have bH:=Lib.hid (Ex.named_eq l e);obtain⟨c1,c2,c3,c4,c5,c6,c7,c8⟩:=cP;obtain⟨ji,je,hq3⟩:=c7 e.name;have C7:=Lib.hid c7;clear c7;have hU:=Lib.hid (fun b hb=>c6.lt b hb);have hBW:=c2.lt;unfold exV Jg0 at *
 cases aL:e.name.toList.isEmpty
 case true=>
  have fw:Yw l e.name=l:=by unfold Yw;rw [if_pos aL]
  rw [fw] at bH cQ;clear fw
  go_enter Tryz.func116,Tryz.ntmps116
  go_wp2_with fail
  refine Jo fun W0 ag=>?_
  have jx:NSt bs bo bw B base W0 v l d n (N+1):=by
   have:=NSt.keep (W':=W0) ⟨c1,c2,c3,c4,c5,c6,C7.out,c8⟩ (fun k hk=>by rw [ag];exact heap_alloc_old W _ hk) La;exact⟨this.seen,this.map,this.out,this.outf,this.walk,this.own,Jg6 this.cnt Ua,this.size⟩
  have iW:v.ownBlock=v.ownBlock\/∀b,v.ownBlock=some b->W.heap.size<=b:= .inl rfl;have lh:Chg bo B v.ownBlock W W0:=by rw [ag];exact Chg.bel (Jc (Below.refl _ _) _)
  have bD:W.heap.size<=W0.heap.size:=La;have bg:n<=n+1:=Ua;clear ag c1 c2 c3 c4 c5 c6
  go_loopw [28] (fun i wr=>∃(k:Nat) (V:Value) (l2:List ByteArray) (d2:ByteArray->Option Int) (n2 N2:Nat),k<=e.sub.length/\i = .int .i64 k/\Ex.namedL l2 (e.sub.drop k)=e.named l/\NSt bs bo bw B base wr V l2 d2 n2 N2/\(V.ownBlock=v.ownBlock\/∀b,V.ownBlock=some b->W.heap.size<=b)/\Chg bo B v.ownBlock W wr/\l2.length+Ex.sizeL (e.sub.drop k)<=1000000/\n2+Ex.sizeL (e.sub.drop k)<=n+e.size/\N2+Ex.sizeL (e.sub.drop k)<=N+e.size) (fun i _=>e.sub.length-(intOf i).toNat)
  case atStart=>exact⟨0,v,l,d,n,N+1,Nat.zero_le _,rfl,D2,jx,iW,lh,Vm,Vm,Vm⟩
  case round=>
   exact Tx
 case false=>
  have hN:(N:Int)<=1000000:=Ua;have hbsw:bs<W.heap.size:=Ua;have hbow:bo<W.heap.size:=Ua;have hbww:bw<W.heap.size:=Ua;have hC:=Lib.hid (Jyp (s0:=e.name) C7.out aL)
  have HNE:=Lib.hid (show ∀b,b<base->v.ownBlock=none\/v.ownBlock≠some b from fun b hb=>by
   cases hv:v.ownBlock with
   | none=>exact .inl rfl
   | some g=>
    right
    intro he;injection he with he;have:=(hU.out g hv).1;omega)
  have lp:((upd d e.name ((d e.name).getD 0+1)) e.name).getD 0=(d e.name).getD 0+1:=by unfold upd;rw [if_pos rfl];rfl
  cases hh:Ka l e.name
  case true=>
   have fw:Yw l e.name=l:=by unfold Yw;rw [aL,if_neg Ul,if_pos hh]
   have iv:=ji hh;have ht:((((upd d e.name ((d e.name).getD 0+1)) e.name).getD 0) == 1)=false:=by rw [lp];simp;omega
   rw [fw] at bH cQ hC;clear fw hh lp ji je
   go_enter Tryz.func116,Tryz.ntmps116
   go_wp2_with (first|(at_lookup;refine Qb rfl (.tmp _) (.tmp _) 115 rfl Tryz.underlying9 Tryz.underlying115 Tryz.underlying3 (Kj _) B n d e.name rfl (by with_reducible exact Jz.alloc c2) rfl fE ?_)|(at_mapUpdate;go_loud (refine Jau rfl (.tmp 10) (.tmp 12) (.tmp 14) 115 rfl Tryz.underlying9 Tryz.underlying115 Tryz.underlying3 B n d e.name ((d e.name).getD 0+1) rfl Udh Ua rfl rfl fE Ua ?_;intro w2 cI aG;have br:W.heap.size+1<=w2.heap.size:=D0;have dz:=(fun b (h1:b<W.heap.size+1) (h2:b≠B)=>aG.block b Lw Lg);have kz2:w2.cell? ⟨W.heap.size,2,none⟩=some (.string e.name):=Jr (dz W.heap.size Ua Ua) Uq;have kz3:w2.cell? ⟨W.heap.size,3,none⟩=some (.slice Ae e.sub.length ce):=Jr (dz W.heap.size Ua Ua) Uq;have ks:w2.cell? ⟨bs,0,none⟩=some (.map (some B)):=Jr (dz bs Ua n2) (Ja (Jc (Below.refl _ _) _) c1);have ko:w2.cell? ⟨bo,0,none⟩=some v:=Jr (dz bo Ua n5) (Ja (Jc (Below.refl _ _) _) c3);have kof:w2.frozen? ⟨bo,0,none⟩=false:=((World.frozen?_of_block (a:=⟨bo,0,none⟩) (dz bo Ua n5)).trans (((Jc (Below.refl _ _) _).frozen (p:=⟨bo,0,none⟩) (show bo<W.heap.size by omega)).trans c4));have kw:w2.cell? ⟨bw,0,none⟩=some (Jg0 bs bo bw):=Jr (dz bw Ua n4) (Ja (Jc (Below.refl _ _) _) c5);have jJ:=(Js c6 (o:=_)).kept aG (HNE.out B hB);have HK2:=Lib.hid dz;have kr:=Lib.hid aG;have KW:=Lib.hid kw;clear dz aG kw c1 c3 c4 c5))|(at_lookup;refine Qb rfl (.tmp _) (.tmp _) 115 rfl Tryz.underlying9 Tryz.underlying115 Tryz.underlying3 (Kj _) B (n+1) (upd d e.name ((d e.name).getD 0+1)) e.name rfl (by with_reducible exact cI) rfl fE ?_))
   refine Jo fun W0 ag=>?_
   have jx:NSt bs bo bw B base W0 v l (upd d e.name ((d e.name).getD 0+1)) (n+1) (N+1):=by
    rw [ag];exact⟨ks,cI,ko,kof,KW.out,jJ,hC.out,Ua⟩
   have iW:v.ownBlock=v.ownBlock\/∀b,v.ownBlock=some b->W.heap.size<=b:= .inl rfl;have lh:Chg bo B v.ownBlock W W0:=by rw [ag];exact Chg.trans (Chg.bel (Jc (Below.refl _ _) _)) (Chg.grown kr.out (.inr (.inl rfl))) (.inl rfl)
   have bD:W.heap.size<=W0.heap.size:=Lk;have bg:n+1<=n+1:=Ua;clear ag ks cI ko kof kz2 kz3 jJ
   go_loopw [28] (fun i wr=>∃(k:Nat) (V:Value) (l2:List ByteArray) (d2:ByteArray->Option Int) (n2 N2:Nat),k<=e.sub.length/\i = .int .i64 k/\Ex.namedL l2 (e.sub.drop k)=e.named l/\NSt bs bo bw B base wr V l2 d2 n2 N2/\(V.ownBlock=v.ownBlock\/∀b,V.ownBlock=some b->W.heap.size<=b)/\Chg bo B v.ownBlock W wr/\l2.length+Ex.sizeL (e.sub.drop k)<=1000000/\n2+Ex.sizeL (e.sub.drop k)<=n+e.size/\N2+Ex.sizeL (e.sub.drop k)<=N+e.size) (fun i _=>e.sub.length-(intOf i).toNat)
   case atStart=>exact⟨0,v,l,(upd d e.name ((d e.name).getD 0+1)),(n+1),N+1,Nat.zero_le _,rfl,D2,jx,iW,lh,Vm,Vm,Vm⟩
   case round=>
    exact Tx
  case false=>
   have fw:Yw l e.name=l ++ [e.name]:=by unfold Yw;rw [aL,if_neg Ul,if_neg (by simp [hh])]
   have iv:=je hh;have hq00:0<=(d e.name).getD 0:=Ua;have ht:((((upd d e.name ((d e.name).getD 0+1)) e.name).getD 0) == 1)=true:=by rw [lp];simp;omega
   have HQ0:=Lib.hid iv;rw [fw] at bH cQ hC;clear fw hh lp ji je iv
   go_enter Tryz.func116,Tryz.ntmps116
   go_wp2_with (first|(at_lookup;refine Qb rfl (.tmp _) (.tmp _) 115 rfl Tryz.underlying9 Tryz.underlying115 Tryz.underlying3 (Kj _) B n d e.name rfl (by with_reducible exact Jz.alloc c2) rfl fE ?_)|(at_mapUpdate;go_loud (refine Jau rfl (.tmp 10) (.tmp 12) (.tmp 14) 115 rfl Tryz.underlying9 Tryz.underlying115 Tryz.underlying3 B n d e.name ((d e.name).getD 0+1) rfl Udh Ua rfl rfl fE Ua ?_;intro w2 cI aG;have br:W.heap.size+1<=w2.heap.size:=D0;have dz:=(fun b (h1:b<W.heap.size+1) (h2:b≠B)=>aG.block b Lw Lg);have kz2:w2.cell? ⟨W.heap.size,2,none⟩=some (.string e.name):=Jr (dz W.heap.size Ua Ua) Uq;have kz3:w2.cell? ⟨W.heap.size,3,none⟩=some (.slice Ae e.sub.length ce):=Jr (dz W.heap.size Ua Ua) Uq;have ks:w2.cell? ⟨bs,0,none⟩=some (.map (some B)):=Jr (dz bs Ua n2) (Ja (Jc (Below.refl _ _) _) c1);have ko:w2.cell? ⟨bo,0,none⟩=some v:=Jr (dz bo Ua n5) (Ja (Jc (Below.refl _ _) _) c3);have kof:w2.frozen? ⟨bo,0,none⟩=false:=((World.frozen?_of_block (a:=⟨bo,0,none⟩) (dz bo Ua n5)).trans (((Jc (Below.refl _ _) _).frozen (p:=⟨bo,0,none⟩) (show bo<W.heap.size by omega)).trans c4));have kw:w2.cell? ⟨bw,0,none⟩=some (Jg0 bs bo bw):=Jr (dz bw Ua n4) (Ja (Jc (Below.refl _ _) _) c5);have jJ:=(Js c6 (o:=_)).kept aG (HNE.out B hB);have HK2:=Lib.hid dz;have kr:=Lib.hid aG;have KW:=Lib.hid kw;clear dz aG kw c1 c3 c4 c5))|(at_lookup;refine Qb rfl (.tmp _) (.tmp _) 115 rfl Tryz.underlying9 Tryz.underlying115 Tryz.underlying3 (Kj _) B (n+1) (upd d e.name ((d e.name).getD 0+1)) e.name rfl (by with_reducible exact cI) rfl fE ?_)|(at_builtin;go_loud (refine Z2 rfl (.tmp 20) (.tmp 23) 121 rfl base 9 _ 1 16 Tryz.underlying121 Zq rfl Ua v l.length (l.map .string) w2.heap.size 1 1 [.string e.name] rfl (Js jJ) rfl rfl (fun j u hj=>by rw [Qo rfl];simpa using hj) Uv Ua Ua Uj ?_;intro v3 w3 aE bJ iM;have fe:w2.heap.size+1<=w3.heap.size:=(by have:=bJ.size;simpa using this);have dU:=(fun b (h1:b<base)=>Jii jJ Ua (Jc (Below.refl _ _) _) bJ b h1);have ks3:w3.cell? ⟨bs,0,none⟩=some (.map (some B)):=Jr (dU bs uL) ks;have ko3:w3.cell? ⟨bo,0,none⟩=some v:=Jr (dU bo cW) ko;have kof3:w3.frozen? ⟨bo,0,none⟩=false:=((World.frozen?_of_block (a:=⟨bo,0,none⟩) (dU bo cW)).trans kof);have kw3:w3.cell? ⟨bw,0,none⟩=some (Jg0 bs bo bw):=Jr (dU bw aC) KW.out;have kz3':w3.cell? ⟨W.heap.size,3,none⟩=some (.slice Ae e.sub.length ce):=Jr ((bJ.block W.heap.size Uj (fun he=>by have:=(hU.out _ he.symm).2;omega)).trans (heap_alloc_old _ _ Ua)) kz3;have kV:=cI.keep1 (dU B hB);obtain⟨A3,cv3,rfl,it,iu⟩:=Jv aE;have HG3:=Lib.hid bJ;have HM3:=Lib.hid kV;have HO3:=Lib.hid aE;have KW3:=Lib.hid kw3;have HV3:=Lib.hid iM;clear bJ dU kV aE kw3 iM)))
   refine Jo fun W0 ag=>?_
   have jx:NSt bs bo bw B base W0 (.slice A3 (l.length+1) cv3) (l ++ [e.name]) (upd d e.name ((d e.name).getD 0+1)) (n+1) (N+1):=by
    rw [ag];refine⟨?_,HM3.out.keep1 (heap_setCell_other w3 ⟨bo,0,none⟩ B _ (fun h=>n5 h.symm)),World.cell?_setCell_same _ _ _ ko3,(World.frozen?_setCell ..).trans kof3,?_,?_,hC.out,Uj⟩
    ·exact(World.cell?_setCell_other _ _ _ _ (by intro h;injection h with h1;exact n1 h1.symm)).trans ks3
    ·exact(World.cell?_setCell_other _ _ _ _ (by intro h;injection h with h1;exact n3 h1.symm)).trans KW3.out
    ·rw [List.map_append,List.length_append];exact Jbd HO3.out cW _ _
   have iW:(Value.slice A3 (l.length+1) cv3).ownBlock=v.ownBlock\/∀b,(Value.slice A3 (l.length+1) cv3).ownBlock=some b->W.heap.size<=b:=by
    rcases HV3.out with h|h
    ·exact .inl h
    ·exact .inr fun b hb=>Fy
   have lh:Chg bo B v.ownBlock W W0:=by
    rw [ag];exact(Chg.trans (Chg.trans (Chg.trans (Chg.bel (Jc (Below.refl _ _) _)) (Chg.grown kr.out (.inr (.inl rfl)) (r:=v.ownBlock)) (.inl rfl)) (Chg.bel (Jc (Below.refl _ _) _) (r:=v.ownBlock)) (.inl rfl)) (Chg.grown HG3.out (.inr (.inr rfl))) (.inl rfl)).setCell _ _
   have bD:W.heap.size<=W0.heap.size:=Su;have bg:n+1<=n+1:=Ua;clear ag ks cI ko kof kz2 kz3 jJ ks3 ko3 kof3 kz3'
   go_loopw [28] (fun i wr=>∃(k:Nat) (V:Value) (l2:List ByteArray) (d2:ByteArray->Option Int) (n2 N2:Nat),k<=e.sub.length/\i = .int .i64 k/\Ex.namedL l2 (e.sub.drop k)=e.named l/\NSt bs bo bw B base wr V l2 d2 n2 N2/\(V.ownBlock=v.ownBlock\/∀b,V.ownBlock=some b->W.heap.size<=b)/\Chg bo B v.ownBlock W wr/\l2.length+Ex.sizeL (e.sub.drop k)<=1000000/\n2+Ex.sizeL (e.sub.drop k)<=n+e.size/\N2+Ex.sizeL (e.sub.drop k)<=N+e.size) (fun i _=>e.sub.length-(intOf i).toNat)
   case atStart=>exact⟨0,(.slice A3 (l.length+1) cv3),(l ++ [e.name]),(upd d e.name ((d e.name).getD 0+1)),(n+1),N+1,Nat.zero_le _,rfl,D2,jx,iW,lh,Vm,Vm,Vm⟩
   case round=>
    exact Tx
theorem Jq5 {P:Program} {f:FuncId} {args:Array Value} {R:Ending->World->Prop} {W:World} (h:∀W0,W0=W->Calls P f args W0 R):Calls P f args W R:=h W rfl
theorem Jvk (e:Ex) (A:Option Addr) (cap:Nat) (w:World) (he:Jt w e A cap) (aw:e.OK) (hz:e.size<=1000000) :
  Calls Tryz.prog 79 #[exV e A cap] w fun r w'=>(∃v,r = .returned v/\w'.ownsRow w.heap.size 9 1 v (Kx e).length ((Kx e).map .string))/\Below w.heap.size w w':=by
 have li:=fun W h=>Jru e A cap 121 W (he.later h) Ua Ua;have ct:=Ex.count_bd e 121;have hv:Kx e=if 120<e.count 121 then [] else e.named []:=rfl;generalize e.count 121=c at *
 by_cases hc:120<c
 ·rw [if_pos hc] at hv;unfold exV at *;have HV:=Lib.hid hv;clear hv
  go_enter Tryz.func79,Tryz.ntmps79
  go_wp2_with (first|(go_at_call 115;refine(li _ Jb).mono ?_;rintro r w1 ⟨rfl,ac⟩;have ⟨ak,af⟩:=aft ac;(try simp at af)))
  go_ret;exact⟨⟨_,rfl,by rw [HV.out];exact World.ownsRow_nil _ _ _ _⟩,Jb⟩
 ·rw [if_neg hc] at hv;have fP:=Lib.hid (fun(bs bo bw B base:Nat) (uL:bs<base) (cW:bo<base) (aC:bw<base) (hB:B<base) (n1:bs≠bo) (n2:bs≠B) (n3:bw≠bo) (n4:bw≠B) (n5:bo≠B) (w0:World) (m1:w0.heap.size<=bo) (m2:w0.heap.size<=B) (m3:w0.heap.size<=base)=>Jvx bs bo bw B base uL cW aC hB n1 n2 n3 n4 n5 w0 m1 m2 m3 e aw);have HE:=Lib.hid he;clear aw he;unfold exV at *;have HV:=Lib.hid hv;clear hv;have gI:=@run_makeMap Tryz.prog;have gZ:∀(fn:Fn) (first cap:Array Value) (w:World),(Instr.makeFunc fn first cap).run Tryz.prog w = .ok (.func fn first cap) w:=fun _ _ _ _=>rfl;have hsf:=fun(a:Addr) (fn:Fn) (x y:Array Value) (m:Mode) (w:World)=>run_store Tryz.prog w a (.func fn x y) m rfl
  go_enter Tryz.func79,Tryz.ntmps79
  go_wp2_with (first|(go_at_call 115;refine(li _ Jb).mono ?_;rintro r w1 ⟨rfl,ac⟩;have ak:=Jg ac;have af:=ac.size;(try simp at af);have bV:w.heap.size<w1.heap.size:=Ua;have gq:w.heap.size<w1.heap.size+1:=Ua;have ow:w.heap.size<w1.heap.size+1+1:=Ua;have ns:w.heap.size<w1.heap.size+1+1+1:=Ua;have nt:¬w1.heap.size+1+1+1=w.heap.size:=Ua))
  refine Jq5 fun Wc tp=>?_;have bU:Below w1.heap.size w1 Wc:=by rw [tp];exact Jc (Jc (Jc (Jc (Below.refl _ _) _) _) _) _
  have gS:Below w.heap.size w w1:=Jb;have hbwc:Below w.heap.size w Wc:=Jd gS bU;have iG:Wc.heap.size=w1.heap.size+4:=by rw [tp];simp
  have cP:NSt (w1.heap.size+1+1) w1.heap.size (w1.heap.size+1+1+1) (w1.heap.size+1) (w1.heap.size+4) Wc (.slice none 0 0) [] (fun _=>none) 0 0:=by
   refine⟨by rw [tp];go_simp,?_,by rw [tp];go_simp,by rw [tp];go_simp,by rw [tp];unfold Jg0;go_simp,World.ownsRow_nil _ _ _ _,fun s=>⟨fun h=>by simp [Ka] at h,fun _=>rfl,Ul⟩,Ua⟩;rw [tp];have:=(Jz.made (P:=Tryz.prog) (k:=9) (e:=3) (w1.alloc (.cells #[.slice none 0 0] 121))).alloc (o:= .cells #[.map (some (w1.heap.size+1))] 115);have h2:=this.alloc (o:= .cells #[.func (.func 116) #[] #[.pointer (some ⟨w1.heap.size+1+1,0,none⟩),.pointer (some ⟨w1.heap.size,0,none⟩),.pointer (some ⟨w1.heap.size+1+1+1,0,none⟩)]] 191);exact Lg
  have he1:=HE.out.later gS;clear tp gZ gI hsf;refine((fP.out (w1.heap.size+1+1) w1.heap.size (w1.heap.size+1+1+1) (w1.heap.size+1) (w1.heap.size+4) Ua Ua Ua Ua Ua Ua Ua Ua Ua w1 Ua Ua Ua) A cap he1 Wc (.slice none 0 0) [] (fun _=>none) 0 0 bU cP Mg Mg Mg).mono ?_;rintro r w3 ⟨rfl,⟨v3,d3,n3,ft,sR,fv⟩,ja⟩;have ko:=ft.out;have cJ:=Lib.hid ft;have HCH:=Lib.hid ja;clear ft ja cP fv
  go_wp2_with fail
  go_ret;exact⟨⟨_,rfl,by rw [HV.out];exact K8 cJ.out.own Ua⟩,Jd2 (base:=w1.heap.size+4) hbwc HCH.out Ua Ua (fun b hb=>by simp [Value.ownBlock] at hb)⟩
def Yq (w:World) (l:List Int) (A:Option Addr) (cap:Nat):Prop:=
 l.length<=cap/\cap<=maxLen/\(0<l.length->∃b off,A=some ⟨b,off,none⟩/\∀(k:Nat) (x:Int),l[k]?=some x->w.cell? ⟨b,off+k,none⟩=some (.int .i64 x))
theorem Yq.later {w w':World} {l:List Int} {A:Option Addr} {cap:Nat} (h:Yq w l A cap) (hb:Below w.heap.size w w'):Yq w' l A cap:=
 ⟨h.1,h.2.1,fun hl=>by
  obtain⟨b,off,hA,hr⟩:=h.2.2 hl;exact⟨b,off,hA,fun k s hk=>Ja hb (hr k s hk)⟩⟩
theorem Yq.drewN {w:World} {l:List Int} {A:Option Addr} {cap:Nat} (h:Yq w l A cap) (n:Nat):Yq (w.drewN n) l A cap:=h.later (J8 (Below.refl _ _) n)
theorem Yq.get {w:World} {l:List Int} {A:Option Addr} {cap k:Nat} {x:Int} (h:Yq w l A cap) (hk:l[k]?=some x):∃b off,A=some ⟨b,off,none⟩/\b<w.heap.size/\w.cell? ⟨b,off+k,none⟩=some (.int .i64 x):=by
 have am:k<l.length:=(List.getElem?_eq_some_iff.1 hk).1;obtain⟨b,off,hA,hr⟩:=h.2.2 Ua;exact⟨b,off,hA,block_lt_of_cell (hr k x hk),hr k x hk⟩
theorem Yq.of_own {w:World} {base:Nat} {e:TypeId} {l:List Int} {A:Option Addr} {cap:Nat} (h:w.ownsRow base e 1 (.slice A l.length cap) l.length (l.map (.int .i64))):Yq w l A cap:=by
 exact Uaw
def Jb2 (d:ByteArray->Option Int) (l:List ByteArray):Bool:=l.all fun s=>!(d s).isSome
theorem Jf0 (l:List ByteArray) (A:Option Addr) (cap:Nat) (B n:Nat) (d:ByteArray->Option Int) (w:World) (hl:Qf w l A cap) (hm:Jz Tryz.prog 9 3 w B n d) (hs:∀s∈l,s.size<=maxLen) :
  Calls Tryz.prog 47 #[.map (some B),.slice A l.length cap] w fun r w'=>r = .returned (.bool (Jb2 d l))/\Below w.heap.size w w':=by
 have ai:=hl.len;unfold maxLen at ai;obtain⟨jD,jE⟩:=ai;have HS:=Lib.hid hs;clear hs
 go_enter Tryz.func47,Tryz.ntmps47
 go_wp2_with fail
 go_loopw [4,11] (fun o i wr=>∃k:Nat,k<=l.length/\i = .int .i64 k/\o = .bool false/\Jb2 d (l.drop k)=Jb2 d l/\Below w.heap.size w wr) (fun _ i _=>l.length-(intOf i).toNat)
 case atStart=>exact⟨0,Nat.zero_le _,rfl,rfl,rfl,Jb⟩
 case round=>
  obtain⟨k,hk,rfl,rfl,aa,ab⟩:=hrel;have ej:=hm.bel ab
  by_cases am:k<l.length
  ·have hx:l[k]?=some l[k]:=List.getElem?_eq_getElem am;have aj:l[k]∈l:=List.getElem_mem am;have hd:l.drop k=l[k] :: l.drop (k+1):=List.drop_eq_getElem_cons am;generalize l[k]=x at hx hd aj;have dT:=HS.out x aj;obtain⟨b,off,rfl,aH,d0⟩:=(hl.later ab).get hx;rw [hd] at aa;rw [show Jb2 d (x :: l.drop (k+1))=(!(d x).isSome && Jb2 d (l.drop (k+1))) from rfl] at aa;clear hd hx aj
   cases dj:(d x).isSome
   ·rw [dj,Bool.not_false,Bool.true_and] at aa;have HR:=Lib.hid aa;clear aa
    go_wp2_with (first|(at_lookup;refine Qh rfl (.tmp 16) (.tmp 17) 116 rfl Tryz.underlying9 Tryz.underlying116 Tryz.underlying3 (Kj _) B n d x rfl ej rfl dT ?_))
    go_roundw
    case rel=>exact⟨k+1,Ua,Up,rfl,HR.out,Jb⟩
    case measure=>simp [intOf];omega
   ·rw [dj,Bool.not_true,Bool.false_and] at aa;have HR:=Lib.hid aa;clear aa
    go_wp2_with (first|(at_lookup;refine Qh rfl (.tmp 16) (.tmp 17) 116 rfl Tryz.underlying9 Tryz.underlying116 Tryz.underlying3 (Kj _) B n d x rfl ej rfl dT ?_))
    exact Udg
  ·exact Ub1
theorem Jc8:(Tryz.prog.info? 57).map (fun i=>(i.zero,i.size,i.bytes))=some (some (.agg #[.string ⟨#[]⟩,.int .i64 0,.int .i64 0,.string ⟨#[]⟩]),4,48):=Ug
theorem Jol {p:Pr} {w w3:World} {v3:Value} (h:w3.ownsRow (w.heap.size+1) 57 4 v3 (0+p.ins.length+p.outs.length+p.locals.length) ([] ++ Xe p.ins ++ Xe p.outs ++ Xe p.locals)) :
  ∃A cap,Ending.returned v3 = .returned (.slice A (Je p).length cap)/\w3.ownsRow w.heap.size 57 4 (.slice A (Je p).length cap) (Je p).length (Xe (Je p)):=by
 have e1:0+p.ins.length+p.outs.length+p.locals.length=(Je p).length:=by simp [Je];omega
 have e2 : [] ++ Xe p.ins ++ Xe p.outs ++ Xe p.locals=Xe (Je p):=by simp [Je,Xe]
 rw [e1,e2] at h;obtain⟨A,cap,rfl,_,_⟩:=Jv h;refine⟨A,cap,rfl,h.1,?_⟩
 rcases h.2 with h2|⟨g,cap',cur,hv,hg,r⟩
 ·exact .inl h2
 ·exact .inr ⟨g,cap',cur,hv,Ua,r⟩
theorem Jcv (p:Pr) (a:PrA) (w:World) (hp:Kr w p a) (n1:p.ins.length<=1000000) (n2:p.outs.length<=1000000) (n3:p.locals.length<=1000000) :
  Calls Tryz.prog 42 #[prV p a] w fun r w'=>
   (∃A cap,r = .returned (.slice A (Je p).length cap)/\w'.ownsRow w.heap.size 57 4 (.slice A (Je p).length cap) (Je p).length (Xe (Je p)))/\Below w.heap.size w w':=by
 have ak:=hp.ins;have dm:=hp.outs;have kE:=hp.locals;obtain⟨A1,c1,A2,c2,A3,c3,A4,c4⟩:=a;dsimp only at ak dm kE;unfold prV;dsimp only
 go_enter Tryz.func42,Tryz.ntmps42
 go_wp2_with (at_builtin;refine K6 rfl _ _ 22 rfl (w.heap.size+1) 57 _ 4 48 Tryz.underlying22 Jc8 rfl Ua (.slice none 0 0) 0 [] A1 p.ins.length c1 (Xe p.ins) rfl (World.ownsRow_nil _ _ _ _) rfl (ak.later Jb).cells (Jbg _) Ua Ua Ul ?_;intro v1 w1 ba ac)
 have aC:Below w.heap.size w w1:=(Jc (Below.refl _ _) _).trans (ac.mono Ua);have af:w.heap.size+1<=w1.heap.size:=V9;have k2:w1.cell? ⟨w.heap.size,2,none⟩=some (.slice A2 p.outs.length c2):=Ud9;have k3:w1.cell? ⟨w.heap.size,3,none⟩=some (.slice A3 p.locals.length c3):=Ud9
 go_region_law (first
  | (refine Jg1 rfl (.tmp 7) (.tmp 9) 22 rfl (w.heap.size+1) 57 _ 4 48 Tryz.underlying22 Jc8 rfl Ua v1 (0+p.ins.length) ([] ++ Xe p.ins) A2 p.outs.length c2 (Xe p.outs) rfl (Kp ba) rfl (dm.later (Jh aC)).cells (Jbg _) Ua Ua af ?_;intro v2 w2 ao aq;have iY:Below w.heap.size w w2:=(Jh aC).trans (aq.mono Ua);have br:w.heap.size+1<=w2.heap.size:=Nat.le_trans af aq.size;have k3':w2.cell? ⟨w.heap.size,3,none⟩=some (.slice A3 p.locals.length c3):=(aq.cell (p:=⟨w.heap.size,3,none⟩) Ul).trans k3)
  | (refine Jg1 rfl (.tmp 10) (.tmp 12) 22 rfl (w.heap.size+1) 57 _ 4 48 Tryz.underlying22 Jc8 rfl Ua v2 (0+p.ins.length+p.outs.length) ([] ++ Xe p.ins ++ Xe p.outs) A3 p.locals.length c3 (Xe p.locals) rfl ao rfl (kE.later iY).cells (Jbg _) Ua Ua br ?_;intro v3 w3 aE aM))
 all_goals
  go_wp2_with fail
  go_ret;refine⟨?_,iY.trans (aM.mono Ua)⟩;exact Jol aE
theorem Z3 (p:Pr) (a:PrA) (w:World) (hp:Kr w p a) (n1:p.ins.length<=1000000) (n2:p.outs.length<=1000000) (n3:p.locals.length<=1000000) :
  Calls Tryz.prog 26 #[prV p a] w fun r w'=>
   (∃A cap,r = .returned (.slice A (Je p).length cap)/\w'.ownsRow w.heap.size 57 4 (.slice A (Je p).length cap) (Je p).length (Xe (Je p)))/\Below w.heap.size w w':=by
 have ak:=hp.ins;have dm:=hp.outs;have kE:=hp.locals;obtain⟨A1,c1,A2,c2,A3,c3,A4,c4⟩:=a;dsimp only at ak dm kE;unfold prV;dsimp only
 go_enter Tryz.func26,Tryz.ntmps26
 go_wp2_with (first|(at_builtin;refine K6 rfl (.tmp 4) (.tmp 6) 22 rfl (w.heap.size+1) 57 _ 4 48 Tryz.underlying22 Jc8 rfl Ua (.slice none 0 0) 0 [] A1 p.ins.length c1 (Xe p.ins) rfl (World.ownsRow_nil _ _ _ _) rfl (ak.later Jb).cells (Jbg _) Ua Ua Ul ?_;intro v1 w1 ba ac;have aC:Below w.heap.size w w1:=(Jc (Below.refl _ _) _).trans (ac.mono Ua);have af:w.heap.size+1<=w1.heap.size:=V9;have k2:w1.cell? ⟨w.heap.size,2,none⟩=some (.slice A2 p.outs.length c2):=Ud9;have k3:w1.cell? ⟨w.heap.size,3,none⟩=some (.slice A3 p.locals.length c3):=Ud9)|(at_builtin;refine K6 rfl (.tmp 8) (.tmp 10) 22 rfl (w.heap.size+1) 57 _ 4 48 Tryz.underlying22 Jc8 rfl Ua v1 (0+p.ins.length) ([] ++ Xe p.ins) A2 p.outs.length c2 (Xe p.outs) rfl ba rfl (dm.later aC).cells (Jbg _) Ua Ua af ?_;intro v2 w2 ao aq;have iY:Below w.heap.size w w2:=aC.trans (aq.mono Ua);have br:w.heap.size+1<=w2.heap.size:=Nat.le_trans af aq.size;have k3':w2.cell? ⟨w.heap.size,3,none⟩=some (.slice A3 p.locals.length c3):=(aq.cell (p:=⟨w.heap.size,3,none⟩) Ul).trans k3)|(at_builtin;refine K6 rfl (.tmp 12) (.tmp 14) 22 rfl (w.heap.size+1) 57 _ 4 48 Tryz.underlying22 Jc8 rfl Ua v2 (0+p.ins.length+p.outs.length) ([] ++ Xe p.ins ++ Xe p.outs) A3 p.locals.length c3 (Xe p.locals) rfl ao rfl (kE.later iY).cells (Jbg _) Ua Ua br ?_;intro v3 w3 aE aM))
 go_ret;refine⟨?_,iY.trans (aM.mono Ua)⟩;exact Jol aE
end Go.Proofs.YtknfcamdfdfoeaaGreatDoor
