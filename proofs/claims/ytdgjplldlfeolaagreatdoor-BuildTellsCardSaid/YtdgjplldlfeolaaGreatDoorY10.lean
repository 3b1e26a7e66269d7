/- Lemmas. -/
import Derived.Test.YtdgjplldlfeolaaGreatDoorMac
import Derived.Test.YtdgjplldlfeolaaGreatDoorY08
import Derived.Test.YtdgjplldlfeolaaGreatDoorY01
import Derived.Test.YtdgjplldlfeolaaGreatDoorRows
import Derived.Test.YtdgjplldlfeolaaGreatDoorY00
import Derived.Test.YtdgjplldlfeolaaGreatDoorY02
set_option linter.unusedVariables false
set_option linter.unusedSimpArgs false
set_option maxRecDepth 100000
set_option maxHeartbeats 64000000
namespace Go.Proofs.YtdgjplldlfeolaaGreatDoor
open Go.RowKit Go.Sort
def Jg0 (bs bo bw:Nat):Value:= .func (.func 147) #[] #[.pointer (some ⟨bs,0,none⟩),.pointer (some ⟨bo,0,none⟩),.pointer (some ⟨bw,0,none⟩)]
structure NSt (bs bo bw B base:Nat) (W:World) (v:Value) (l:List ByteArray) (d:ByteArray->Option Int) (n N:Nat):Prop where
 seen:W.cell? ⟨bs,0,none⟩=some (.map (some B))
 map:Jz Tryz.prog 9 3 W B n d
 out:W.cell? ⟨bo,0,none⟩=some v
 outf:W.frozen? ⟨bo,0,none⟩=false
 walk:W.cell? ⟨bw,0,none⟩=some (Jg0 bs bo bw)
 own:W.ownsRow base 9 1 v l.length (l.map .string)
 cnt:∀s,(Ka l s=true->1<=(d s).getD 0)/\(Ka l s=false->(d s).getD 0=0)/\(d s).getD 0<=(N:Int)
 size:base<=W.heap.size
theorem NSt.keep {bs bo bw B base:Nat} {W W':World} {v:Value} {l:List ByteArray} {d:ByteArray->Option Int} {n N:Nat} (h:NSt bs bo bw B base W v l d n N) (hs:∀k,k<W.heap.size->W'.heap[k]?=W.heap[k]?) (hz:W.heap.size<=W'.heap.size):NSt bs bo bw B base W' v l d n N:=by
 have hb:∀ {p:Addr} {u:Value},W.cell? p=some u->W'.cell? p=some u:=fun hc=>Jr (hs _ (Nu hc)) hc;exact⟨hb h.seen,h.map.keep hs,hb h.out,(World.frozen?_of_block (a:=⟨bo,0,none⟩) (hs bo (Nu (a:=⟨bo,0,none⟩) h.out))).trans h.outf,hb h.walk,Jpb h.own hs,h.cnt,by have:=h.size;omega⟩
def Jxj (bs bo bw B base:Nat) (w0:World) (x:Ex):Prop:=∀(A:Option Addr) (c:Nat),Jt w0 x A c->∀(W:World) (v:Value) (l:List ByteArray) (d:ByteArray->Option Int) (n N:Nat),Below w0.heap.size w0 W->NSt bs bo bw B base W v l d n N->
  l.length+x.size<=1000000->n+x.size<=1000000->N+x.size<=1000000->
  Calls Tryz.prog 147 #[exV x A c,.pointer (some ⟨bs,0,none⟩),.pointer (some ⟨bo,0,none⟩),.pointer (some ⟨bw,0,none⟩)] W fun r w'=>r = .returned (.tuple #[])/\(∃v' d' n',NSt bs bo bw B base w' v' (x.named l) d' n' (N+x.size)/\n'<=n+x.size/\(v'.ownBlock=v.ownBlock\/∀b,v'.ownBlock=some b->W.heap.size<=b))/\Chg bo B v.ownBlock W w'
theorem Jd2 {bo B base:Nat} {r:Option Nat} {w0 W wr:World} (hb:Below w0.heap.size w0 W) (h:Chg bo B r W wr) (h1:w0.heap.size<=bo) (h2:w0.heap.size<=B) (h3:∀b,r=some b->w0.heap.size<=b):Below w0.heap.size w0 wr:=
 ⟨h.os.trans hb.os,h.tape.trans hb.tape,h.output.trans hb.output,Nat.le_trans hb.size h.size,fun k hk=>(h.block k (Nr hk hb.size) Ua Ua (fun he=>by have:=h3 k he.symm;omega)).trans (hb.block k hk)⟩
theorem Jg6 {l:List ByteArray} {d:ByteArray->Option Int} {N N':Nat} (h:∀s,(Ka l s=true->1<=(d s).getD 0)/\(Ka l s=false->(d s).getD 0=0)/\(d s).getD 0<=(N:Int)) (hN:N<=N') :
  ∀s,(Ka l s=true->1<=(d s).getD 0)/\(Ka l s=false->(d s).getD 0=0)/\(d s).getD 0<=(N':Int):=fun s=>⟨(h s).1,(h s).2.1,by have:=(h s).2.2;omega⟩
theorem Jyp {l:List ByteArray} {d:ByteArray->Option Int} {N:Nat} {s0:ByteArray} (h:∀s,(Ka l s=true->1<=(d s).getD 0)/\(Ka l s=false->(d s).getD 0=0)/\(d s).getD 0<=(N:Int)) (h0:s0.toList.isEmpty=false) :
  ∀s,(Ka (Yw l s0) s=true->1<=((upd d s0 ((d s0).getD 0+1)) s).getD 0)/\(Ka (Yw l s0) s=false->((upd d s0 ((d s0).getD 0+1)) s).getD 0=0)/\((upd d s0 ((d s0).getD 0+1)) s).getD 0<=((N+1:Nat):Int):=by
 intro s;have hs:=h s;have h00:=h s0
 have hpos:0<=(d s0).getD 0:=by
  cases hb:Ka l s0
  ·rw [h00.2.1 hb];omega
  ·have:=h00.1 hb;omega
 unfold upd
 by_cases hd:s.data=s0.data
 ·have he:s=s0:=by ext1;exact hd
  subst he;rw [if_pos rfl];simp only [Option.getD_some]
  have dV:Ka (Yw l s) s=true:=by
   unfold Yw;rw [h0,if_neg Uh]
   cases hb:Ka l s
   ·rw [if_neg Uh,Jcx];simp
   ·rw [if_pos rfl];exact hb
  refine⟨fun _=>Ua,fun hf=>by rw [dV] at hf;simp at hf,by have:=hs.2.2;omega⟩
 ·rw [if_neg hd]
  have aS:(s0.toList == s.toList)=false:=by
   cases hb:(s0.toList == s.toList)
   ·exact Gp
   ·have:s0=s:=Zf.1 hb;exact absurd (by rw [this]) hd
  have bF:Ka (Yw l s0) s=Ka l s:=by
   unfold Yw;rw [h0,if_neg Uh]
   cases hb:Ka l s0
   ·rw [if_neg Uh,Jcx,aS,Bool.or_false]
   ·rw [if_pos rfl]
  rw [bF];exact⟨hs.1,hs.2.1,by have:=hs.2.2;omega⟩
theorem Jvx (bs bo bw B base:Nat) (uL:bs<base) (cW:bo<base) (aC:bw<base) (hB:B<base) (n1:bs≠bo) (n2:bs≠B) (n3:bw≠bo) (n4:bw≠B) (n5:bo≠B) (w0:World) (m1:w0.heap.size<=bo) (m2:w0.heap.size<=B) (m3:w0.heap.size<=base) (e:Ex):e.OK->Jxj bs bo bw B base w0 e:=by
 induction e using Ex.ind with
 | h e ih0=>
 intro aw Ae ce he W v l d n N dZ cP bC bd hs3;have ih:∀x∈e.sub,Jxj bs bo bw B base w0 x:=fun x hx=>ih0 x hx (Ex.OK_sub aw hx);have fE:e.name.size<=maxLen:=by cases e;exact aw.2.2.1
 clear ih0 aw;have ai:=he.len;unfold maxLen at ai;obtain⟨bI,aD⟩:=ai;have rT:Ex.sizeL e.sub+1<=e.size:=by have:=Ex.size_eq e;omega
 have hsz2:e.size<=Ex.sizeL e.sub+1:=by have:=Ex.size_eq e;omega
 have cQ:=Jj5 l e.name;have bH:=Nf (Ex.named_eq l e);obtain⟨c1,c2,c3,c4,c5,c6,c7,c8⟩:=cP;obtain⟨ji,je,hq3⟩:=c7 e.name;have C7:=Nf c7;clear c7;have hU:=Nf (fun b hb=>c6.lt b hb);have hBW:=c2.lt;unfold exV Jg0 at *
 cases aL:e.name.toList.isEmpty
 case true=>
  have fw:Yw l e.name=l:=by unfold Yw;rw [if_pos aL]
  rw [fw] at bH cQ;clear fw
  go_enter Tryz.func147,Tryz.ntmps147
  go_wp2_with fail
  refine Jo fun W0 ag=>?_
  have jx:NSt bs bo bw B base W0 v l d n (N+1):=by
   have:=NSt.keep (W':=W0) ⟨c1,c2,c3,c4,c5,c6,C7.out,c8⟩ (fun k hk=>by rw [ag];exact heap_alloc_old W _ hk) Vu;exact⟨this.seen,this.map,this.out,this.outf,this.walk,this.own,Jg6 this.cnt Ua,this.size⟩
  have iW:v.ownBlock=v.ownBlock\/∀b,v.ownBlock=some b->W.heap.size<=b:= .inl rfl;have lh:Chg bo B v.ownBlock W W0:=by rw [ag];exact Chg.bel (Jc (Nt) _)
  have bD:W.heap.size<=W0.heap.size:=Vu;have bg:n<=n+1:=Ua;clear ag c1 c2 c3 c4 c5 c6
  go_loopw [28] (fun i wr=>∃(k:Nat) (V:Value) (l2:List ByteArray) (d2:ByteArray->Option Int) (n2 N2:Nat),k<=e.sub.length/\i = .int .i64 k/\Ex.namedL l2 (e.sub.drop k)=e.named l/\NSt bs bo bw B base wr V l2 d2 n2 N2/\(V.ownBlock=v.ownBlock\/∀b,V.ownBlock=some b->W.heap.size<=b)/\Chg bo B v.ownBlock W wr/\l2.length+Ex.sizeL (e.sub.drop k)<=1000000/\n2+Ex.sizeL (e.sub.drop k)<=n+e.size/\N2+Ex.sizeL (e.sub.drop k)<=N+e.size) (fun i _=>e.sub.length-(intOf i).toNat)
  case atStart=>exact⟨0,v,l,d,n,N+1,Np,rfl,by rw [bH.out];rfl,jx,iW,lh,Vr,Vr,Vr⟩
  case round=>
   exact Tm
 case false=>
  have hN:(N:Int)<=1000000:=Ua;have hbsw:bs<W.heap.size:=Ua;have hbow:bo<W.heap.size:=Ua;have hbww:bw<W.heap.size:=Ua;have hC:=Nf (Jyp (s0:=e.name) C7.out aL)
  have HNE:=Nf (show ∀b,b<base->v.ownBlock=none\/v.ownBlock≠some b from fun b hb=>by
   cases hv:v.ownBlock with
   | none=>exact .inl rfl
   | some g=>
    right
    intro he;injection he with he;have:=(hU.out g hv).1;omega)
  have lp:((upd d e.name ((d e.name).getD 0+1)) e.name).getD 0=(d e.name).getD 0+1:=by unfold upd;rw [if_pos rfl];rfl
  cases hh:Ka l e.name
  case true=>
   have fw:Yw l e.name=l:=by unfold Yw;rw [aL,if_neg Uh,if_pos hh]
   have iv:=ji hh;have ht:((((upd d e.name ((d e.name).getD 0+1)) e.name).getD 0) == 1)=false:=by rw [lp];simp;omega
   rw [fw] at bH cQ hC;clear fw hh lp ji je
   go_enter Tryz.func147,Tryz.ntmps147
   go_wp2_with (first|(at_lookup;refine Qb rfl (.tmp _) (.tmp _) 177 rfl Tryz.underlying9 Tryz.underlying177 Tryz.underlying3 (Kj _) B n d e.name rfl (by with_reducible exact Jz.alloc c2) rfl fE ?_)|(at_mapUpdate;go_loud (refine Jau rfl (.tmp 10) (.tmp 12) (.tmp 14) 177 rfl Tryz.underlying9 Tryz.underlying177 Tryz.underlying3 B n d e.name ((d e.name).getD 0+1) rfl Ub8 Ua rfl rfl fE Ua ?_;intro w2 cI aG;have br:W.heap.size+1<=w2.heap.size:=Dw;have dz:=(fun b (h1:b<W.heap.size+1) (h2:b≠B)=>aG.block b Lk Lw);have kz2:=Nb w2 W.heap.size 2 (.string e.name) (Jr (dz W.heap.size Ua Ua) Uc);have kz3:=Nb w2 W.heap.size 3 (.slice Ae e.sub.length ce) (Jr (dz W.heap.size Ua Ua) Uc);have ks:=Nb w2 bs 0 (.map (some B)) (Jr (dz bs Ua n2) (Ja (Jc (Nt) _) c1));have ko:w2.cell? ⟨bo,0,none⟩=some v:=Jr (dz bo Ua n5) (Ja (Jc (Nt) _) c3);have kof:=Nc w2 bo 0 ((World.frozen?_of_block (a:=⟨bo,0,none⟩) (dz bo Ua n5)).trans (((Jc (Nt) _).frozen (p:=⟨bo,0,none⟩) (show bo<W.heap.size by omega)).trans c4));have kw:=Nb w2 bw 0 (Jg0 bs bo bw) (Jr (dz bw Ua n4) (Ja (Jc (Nt) _) c5));have jJ:=(Js c6 (o:=_)).kept aG (HNE.out B hB);have HK2:=Nf dz;have kr:=Nf aG;have KW:=Nf kw;clear dz aG kw c1 c3 c4 c5))|(at_lookup;refine Qb rfl (.tmp _) (.tmp _) 177 rfl Tryz.underlying9 Tryz.underlying177 Tryz.underlying3 (Kj _) B (n+1) (upd d e.name ((d e.name).getD 0+1)) e.name rfl (by with_reducible exact cI) rfl fE ?_))
   refine Jo fun W0 ag=>?_
   have jx:NSt bs bo bw B base W0 v l (upd d e.name ((d e.name).getD 0+1)) (n+1) (N+1):=by
    rw [ag];exact⟨ks,cI,ko,kof,KW.out,jJ,hC.out,Ua⟩
   have iW:v.ownBlock=v.ownBlock\/∀b,v.ownBlock=some b->W.heap.size<=b:= .inl rfl;have lh:Chg bo B v.ownBlock W W0:=by rw [ag];exact Chg.trans (Chg.bel (Jc (Nt) _)) (Chg.grown kr.out (.inr (.inl rfl))) (.inl rfl)
   have bD:W.heap.size<=W0.heap.size:=S7;have bg:n+1<=n+1:=Ua;clear ag ks cI ko kof kz2 kz3 jJ
   go_loopw [28] (fun i wr=>∃(k:Nat) (V:Value) (l2:List ByteArray) (d2:ByteArray->Option Int) (n2 N2:Nat),k<=e.sub.length/\i = .int .i64 k/\Ex.namedL l2 (e.sub.drop k)=e.named l/\NSt bs bo bw B base wr V l2 d2 n2 N2/\(V.ownBlock=v.ownBlock\/∀b,V.ownBlock=some b->W.heap.size<=b)/\Chg bo B v.ownBlock W wr/\l2.length+Ex.sizeL (e.sub.drop k)<=1000000/\n2+Ex.sizeL (e.sub.drop k)<=n+e.size/\N2+Ex.sizeL (e.sub.drop k)<=N+e.size) (fun i _=>e.sub.length-(intOf i).toNat)
   case atStart=>exact⟨0,v,l,(upd d e.name ((d e.name).getD 0+1)),(n+1),N+1,Np,rfl,by rw [bH.out];rfl,jx,iW,lh,Vr,Vr,Vr⟩
   case round=>
    exact Tm
  case false=>
   have fw:Yw l e.name=l ++ [e.name]:=by unfold Yw;rw [aL,if_neg Uh,if_neg (by simp [hh])]
   have iv:=je hh;have hq00:0<=(d e.name).getD 0:=Ua;have ht:((((upd d e.name ((d e.name).getD 0+1)) e.name).getD 0) == 1)=true:=by rw [lp];simp;omega
   have HQ0:=Nf iv;rw [fw] at bH cQ hC;clear fw hh lp ji je iv
   go_enter Tryz.func147,Tryz.ntmps147
   go_wp2_with (first|(at_lookup;refine Qb rfl (.tmp _) (.tmp _) 177 rfl Tryz.underlying9 Tryz.underlying177 Tryz.underlying3 (Kj _) B n d e.name rfl (by with_reducible exact Jz.alloc c2) rfl fE ?_)|(at_mapUpdate;go_loud (refine Jau rfl (.tmp 10) (.tmp 12) (.tmp 14) 177 rfl Tryz.underlying9 Tryz.underlying177 Tryz.underlying3 B n d e.name ((d e.name).getD 0+1) rfl Ub8 Ua rfl rfl fE Ua ?_;intro w2 cI aG;have br:W.heap.size+1<=w2.heap.size:=Dw;have dz:=(fun b (h1:b<W.heap.size+1) (h2:b≠B)=>aG.block b Lk Lw);have kz2:=Nb w2 W.heap.size 2 (.string e.name) (Jr (dz W.heap.size Ua Ua) Uc);have kz3:=Nb w2 W.heap.size 3 (.slice Ae e.sub.length ce) (Jr (dz W.heap.size Ua Ua) Uc);have ks:=Nb w2 bs 0 (.map (some B)) (Jr (dz bs Ua n2) (Ja (Jc (Nt) _) c1));have ko:w2.cell? ⟨bo,0,none⟩=some v:=Jr (dz bo Ua n5) (Ja (Jc (Nt) _) c3);have kof:=Nc w2 bo 0 ((World.frozen?_of_block (a:=⟨bo,0,none⟩) (dz bo Ua n5)).trans (((Jc (Nt) _).frozen (p:=⟨bo,0,none⟩) (show bo<W.heap.size by omega)).trans c4));have kw:=Nb w2 bw 0 (Jg0 bs bo bw) (Jr (dz bw Ua n4) (Ja (Jc (Nt) _) c5));have jJ:=(Js c6 (o:=_)).kept aG (HNE.out B hB);have HK2:=Nf dz;have kr:=Nf aG;have KW:=Nf kw;clear dz aG kw c1 c3 c4 c5))|(at_lookup;refine Qb rfl (.tmp _) (.tmp _) 177 rfl Tryz.underlying9 Tryz.underlying177 Tryz.underlying3 (Kj _) B (n+1) (upd d e.name ((d e.name).getD 0+1)) e.name rfl (by with_reducible exact cI) rfl fE ?_)|(at_builtin;go_loud (refine Z2 rfl (.tmp 20) (.tmp 23) 119 rfl base 9 _ 1 16 Tryz.underlying119 Zq rfl Ua v l.length (l.map .string) w2.heap.size 1 1 [.string e.name] rfl (Js jJ) rfl rfl (fun j u hj=>by rw [Qo rfl];simpa using hj) Vg Ua Ua Ui ?_;intro v3 w3 aE bJ iM;have fe:w2.heap.size+1<=w3.heap.size:=(by have:=bJ.size;simpa using this);have dU:=(fun b (h1:b<base)=>Jii jJ Ua (Jc (Nt) _) bJ b h1);have ks3:=Nb w3 bs 0 (.map (some B)) (Jr (dU bs uL) ks);have ko3:w3.cell? ⟨bo,0,none⟩=some v:=Jr (dU bo cW) ko;have kof3:=Nc w3 bo 0 ((World.frozen?_of_block (a:=⟨bo,0,none⟩) (dU bo cW)).trans kof);have kw3:=Nb w3 bw 0 (Jg0 bs bo bw) (Jr (dU bw aC) KW.out);have kz3':=Nb w3 W.heap.size 3 (.slice Ae e.sub.length ce) (Jr ((bJ.block W.heap.size Ui (fun he=>by have:=(hU.out _ he.symm).2;omega)).trans (heap_alloc_old _ _ Ua)) kz3);have kV:=cI.keep1 (dU B hB);obtain⟨A3,cv3,rfl,it,iu⟩:=Jv aE;have HG3:=Nf bJ;have HM3:=Nf kV;have HO3:=Nf aE;have KW3:=Nf kw3;have HV3:=Nf iM;clear bJ dU kV aE kw3 iM)))
   refine Jo fun W0 ag=>?_
   have jx:NSt bs bo bw B base W0 (.slice A3 (l.length+1) cv3) (l ++ [e.name]) (upd d e.name ((d e.name).getD 0+1)) (n+1) (N+1):=by
    rw [ag];refine⟨?_,HM3.out.keep1 (heap_setCell_other w3 ⟨bo,0,none⟩ B _ (fun h=>n5 h.symm)),Nx _ _ _ ko3,(World.frozen?_setCell ..).trans kof3,?_,?_,hC.out,Ui⟩
    ·exact(World.cell?_setCell_other _ _ _ _ (by intro h;injection h with h1;exact n1 h1.symm)).trans ks3
    ·exact(World.cell?_setCell_other _ _ _ _ (by intro h;injection h with h1;exact n3 h1.symm)).trans KW3.out
    ·rw [List.map_append,Nk];exact Jbd HO3.out cW _ _
   have iW:(Value.slice A3 (l.length+1) cv3).ownBlock=v.ownBlock\/∀b,(Value.slice A3 (l.length+1) cv3).ownBlock=some b->W.heap.size<=b:=by
    rcases HV3.out with h|h
    ·exact .inl h
    ·exact .inr fun b hb=>by have:=h b hb;simp at this;omega
   have lh:Chg bo B v.ownBlock W W0:=by
    rw [ag];exact(Chg.trans (Chg.trans (Chg.trans (Chg.bel (Jc (Nt) _)) (Chg.grown kr.out (.inr (.inl rfl)) (r:=v.ownBlock)) (.inl rfl)) (Chg.bel (Jc (Nt) _) (r:=v.ownBlock)) (.inl rfl)) (Chg.grown HG3.out (.inr (.inr rfl))) (.inl rfl)).setCell _ _
   have bD:W.heap.size<=W0.heap.size:=by rw [ag];simp;omega
   have bg:n+1<=n+1:=Ua;clear ag ks cI ko kof kz2 kz3 jJ ks3 ko3 kof3 kz3'
   go_loopw [28] (fun i wr=>∃(k:Nat) (V:Value) (l2:List ByteArray) (d2:ByteArray->Option Int) (n2 N2:Nat),k<=e.sub.length/\i = .int .i64 k/\Ex.namedL l2 (e.sub.drop k)=e.named l/\NSt bs bo bw B base wr V l2 d2 n2 N2/\(V.ownBlock=v.ownBlock\/∀b,V.ownBlock=some b->W.heap.size<=b)/\Chg bo B v.ownBlock W wr/\l2.length+Ex.sizeL (e.sub.drop k)<=1000000/\n2+Ex.sizeL (e.sub.drop k)<=n+e.size/\N2+Ex.sizeL (e.sub.drop k)<=N+e.size) (fun i _=>e.sub.length-(intOf i).toNat)
   case atStart=>exact⟨0,(.slice A3 (l.length+1) cv3),(l ++ [e.name]),(upd d e.name ((d e.name).getD 0+1)),(n+1),N+1,Np,rfl,by rw [bH.out];rfl,jx,iW,lh,Vr,Vr,Vr⟩
   case round=>
    exact Tm
theorem Jq5 {P:Program} {f:FuncId} {args:Array Value} {R:Ending->World->Prop} {W:World} (h:∀W0,W0=W->Calls P f args W0 R):Calls P f args W R:=h W rfl
theorem Jvk (e:Ex) (A:Option Addr) (cap:Nat) (w:World) (he:Jt w e A cap) (aw:e.OK) (hz:e.size<=1000000) :
  Calls Tryz.prog 136 #[exV e A cap] w fun r w'=>(∃v,r = .returned v/\w'.ownsRow w.heap.size 9 1 v (Kx e).length ((Kx e).map .string))/\Below w.heap.size w w':=by
 have li:=fun W h=>Jru e A cap 121 W (he.later h) Ua Ua;have ct:=Ex.count_bd e 121;have hv:Kx e=if 120<e.count 121 then [] else e.named []:=rfl;generalize e.count 121=c at *
 by_cases hc:120<c
 ·rw [if_pos hc] at hv;unfold exV at *;have HV:=Nf hv;clear hv
  go_enter Tryz.func136,Tryz.ntmps136
  go_wp2_with (first|(go_at_call 146;refine mo (li _ Jb) fun w1 ac ak af bV=>?_;(try simp at af);(try have bV:=lt0 w w1);(try have gq:=ltA w 1 w1);(try have ow:=ltA w 2 w1);(try have ns:=lt0 wr w1);(try have nt:=ltA wr 1 w1)))
  go_ret;exact⟨⟨_,rfl,by rw [HV.out];exact Nw⟩,Jb⟩
 ·rw [if_neg hc] at hv;have fP:=Nf (fun(bs bo bw B base:Nat) (uL:bs<base) (cW:bo<base) (aC:bw<base) (hB:B<base) (n1:bs≠bo) (n2:bs≠B) (n3:bw≠bo) (n4:bw≠B) (n5:bo≠B) (w0:World) (m1:w0.heap.size<=bo) (m2:w0.heap.size<=B) (m3:w0.heap.size<=base)=>Jvx bs bo bw B base uL cW aC hB n1 n2 n3 n4 n5 w0 m1 m2 m3 e aw);have HE:=Nf he;clear aw he;unfold exV at *;have HV:=Nf hv;clear hv;have gI:=@run_makeMap Tryz.prog;have gZ:∀(fn:Fn) (first cap:Array Value) (w:World),(Instr.makeFunc fn first cap).run Tryz.prog w = .ok (.func fn first cap) w:=fun _ _ _ _=>rfl;have hsf:=fun(a:Addr) (fn:Fn) (x y:Array Value) (m:Mode) (w:World)=>run_store Tryz.prog w a (.func fn x y) m rfl
  go_enter Tryz.func136,Tryz.ntmps136
  go_wp2_with (first|(go_at_call 146;refine(li _ Jb).mono ?_;rintro r w1 ⟨rfl,ac⟩;have ak:=Jg ac;have af:=ac.size;(try simp at af);have bV:=lt0 w w1;have gq:w.heap.size<w1.heap.size+1:=Ua;have ow:w.heap.size<w1.heap.size+1+1:=Ua;have ns:w.heap.size<w1.heap.size+1+1+1:=Ua;have nt:¬w1.heap.size+1+1+1=w.heap.size:=Ua))
  refine Jq5 fun Wc tp=>?_;have bU:=Nd w1 Wc (by rw [tp];exact Jc (Jc (Jc (Jc (Nt) _) _) _) _)
  have gS:=Nd w w1 Jb;have hbwc:=Nd w Wc (Jd gS bU);have iG:Wc.heap.size=w1.heap.size+4:=by rw [tp];simp
  have cP:NSt (w1.heap.size+1+1) w1.heap.size (w1.heap.size+1+1+1) (w1.heap.size+1) (w1.heap.size+4) Wc (.slice none 0 0) [] (fun _=>none) 0 0:=by
   refine⟨by rw [tp];go_simp,?_,by rw [tp];go_simp,by rw [tp];go_simp,by rw [tp];unfold Jg0;go_simp,Nw,fun s=>⟨fun h=>by simp [Ka] at h,fun _=>rfl,Uh⟩,Ua⟩;rw [tp];have:=(Jz.made (P:=Tryz.prog) (k:=9) (e:=3) (w1.alloc (.cells #[.slice none 0 0] 119))).alloc (o:= .cells #[.map (some (w1.heap.size+1))] 177);have h2:=this.alloc (o:= .cells #[.func (.func 147) #[] #[.pointer (some ⟨w1.heap.size+1+1,0,none⟩),.pointer (some ⟨w1.heap.size,0,none⟩),.pointer (some ⟨w1.heap.size+1+1+1,0,none⟩)]] 262);exact Lw
  have he1:=HE.out.later gS;clear tp gZ gI hsf;refine((fP.out (w1.heap.size+1+1) w1.heap.size (w1.heap.size+1+1+1) (w1.heap.size+1) (w1.heap.size+4) Ua Ua Ua Ua Ua Ua Ua Ua Ua w1 Ua Ua Ua) A cap he1 Wc (.slice none 0 0) [] (fun _=>none) 0 0 bU cP Mb Mb Mb).mono ?_;rintro r w3 ⟨rfl,⟨v3,d3,n3,ft,sR,fv⟩,ja⟩;have ko:=ft.out;have cJ:=Nf ft;have HCH:=Nf ja;clear ft ja cP fv
  go_wp2_with fail
  go_ret;exact⟨⟨_,rfl,by rw [HV.out];exact K8 cJ.out.own Ua⟩,Jd2 (base:=w1.heap.size+4) hbwc HCH.out Ua Ua (fun b hb=>by simp [Value.ownBlock] at hb)⟩
def Yq (w:World) (l:List Int) (A:Option Addr) (cap:Nat):Prop:=
 l.length<=cap/\cap<=maxLen/\(0<l.length->∃b off,A=some ⟨b,off,none⟩/\∀(k:Nat) (x:Int),l[k]?=some x->w.cell? ⟨b,off+k,none⟩=some (.int .i64 x))
theorem Yq.later {w w':World} {l:List Int} {A:Option Addr} {cap:Nat} (h:Yq w l A cap) (hb:Below w.heap.size w w'):Yq w' l A cap:=
 ⟨h.1,h.2.1,fun hl=>by
  obtain⟨b,off,hA,hr⟩:=h.2.2 hl;exact⟨b,off,hA,fun k s hk=>Ja hb (hr k s hk)⟩⟩
theorem Yq.drewN {w:World} {l:List Int} {A:Option Addr} {cap:Nat} (h:Yq w l A cap) (n:Nat):Yq (w.drewN n) l A cap:=h.later (J8 (Nt) n)
theorem Yq.get {w:World} {l:List Int} {A:Option Addr} {cap k:Nat} {x:Int} (h:Yq w l A cap) (hk:l[k]?=some x):∃b off,A=some ⟨b,off,none⟩/\b<w.heap.size/\w.cell? ⟨b,off+k,none⟩=some (.int .i64 x):=by
 have am:k<l.length:=(Nh hk).1;obtain⟨b,off,hA,hr⟩:=h.2.2 Ua;exact⟨b,off,hA,Nu (hr k x hk),hr k x hk⟩
theorem Yq.of_own {w:World} {base:Nat} {e:TypeId} {l:List Int} {A:Option Addr} {cap:Nat} (h:w.ownsRow base e 1 (.slice A l.length cap) l.length (l.map (.int .i64))):Yq w l A cap:=by
 exact Bq
def Jb2 (d:ByteArray->Option Int) (l:List ByteArray):Bool:=l.all fun s=>!(d s).isSome
theorem Jf0 (l:List ByteArray) (A:Option Addr) (cap:Nat) (B n:Nat) (d:ByteArray->Option Int) (w:World) (hl:Qf w l A cap) (hm:Jz Tryz.prog 9 3 w B n d) (hs:∀s∈l,s.size<=maxLen) :
  Calls Tryz.prog 123 #[.map (some B),.slice A l.length cap] w fun r w'=>r = .returned (.bool (Jb2 d l))/\Below w.heap.size w w':=by
 have ai:=hl.len;unfold maxLen at ai;obtain⟨jD,jE⟩:=ai;have HS:=Nf hs;clear hs
 go_enter Tryz.func123,Tryz.ntmps123
 go_wp2_with fail
 go_loopw [4,11] (fun o i wr=>∃k:Nat,k<=l.length/\i = .int .i64 k/\o = .bool false/\Jb2 d (l.drop k)=Jb2 d l/\Below w.heap.size w wr) (fun _ i _=>l.length-(intOf i).toNat)
 case atStart=>exact⟨0,Np,rfl,rfl,rfl,Jb⟩
 case round=>
  obtain⟨k,hk,rfl,rfl,aa,ab⟩:=hrel;have ej:=hm.bel ab
  by_cases am:k<l.length
  ·have hx:l[k]?=some l[k]:=Ng am;have aj:l[k]∈l:=Nj am;have hd:l.drop k=l[k] :: l.drop (k+1):=No am;generalize l[k]=x at hx hd aj;have dT:=HS.out x aj;obtain⟨b,off,rfl,aH,d0⟩:=(hl.later ab).get hx;rw [hd] at aa;rw [show Jb2 d (x :: l.drop (k+1))=(!(d x).isSome && Jb2 d (l.drop (k+1))) from rfl] at aa;clear hd hx aj
   cases dj:(d x).isSome
   ·rw [dj,Bool.not_false,Bool.true_and] at aa;have HR:=Nf aa;clear aa
    go_wp2_with (first|(at_lookup;refine Qh rfl (.tmp 16) (.tmp 17) 235 rfl Tryz.underlying9 Tryz.underlying235 Tryz.underlying3 (Kj _) B n d x rfl ej rfl dT ?_))
    go_roundw
    case rel=>exact⟨k+1,Ua,Uw,rfl,HR.out,Jb⟩
    case measure=>simp [intOf];omega
   ·rw [dj,Bool.not_true,Bool.false_and] at aa;have HR:=Nf aa;clear aa
    go_wp2_with (first|(at_lookup;refine Qh rfl (.tmp 16) (.tmp 17) 235 rfl Tryz.underlying9 Tryz.underlying235 Tryz.underlying3 (Kj _) B n d x rfl ej rfl dT ?_))
    go_ret;exact⟨Jk HR.out,Jb⟩
  ·obtain rfl:k=l.length:=Ua;rw [Nn] at aa;have HR:=Nf aa;clear aa;exact Uc1
def ofR (L:List Va) (q:Qe):List ByteArray:=match Xb L q.name with|some v=>Yw (Kx q.e) v.cn|none=>Kx q.e
theorem Jmt (e:Ex):(Kx e).length<=e.size:=by
 unfold Kx
 split
 ·exact Uh
 ·have:=(Ex.named_len e []).2;simpa using this
def Jcf (c:Int×ByteArray):Value:= .agg #[.int .i64 c.1,.string c.2]
def J9 (L:List Va) (s:ByteArray):Int×ByteArray:=L.foldl (fun c v=>if s.data=v.name.data then(v.ck,v.cn) else c) (0,⟨#[]⟩)
def Jkd (f:ByteArray->Option Value) (L:List Va):Prop:=∀s,(f s).getD (Jcf (0,⟨#[]⟩))=Jcf (J9 L s)
theorem Jo8:Jkd (fun _=>none) []:=fun s=>rfl
theorem Jmq {f:ByteArray->Option Value} {L:List Va} (h:Jkd f L) (v:Va):Jkd (Jki f v.name (Jcf (v.ck,v.cn))) (L ++ [v]):=by
 intro s;unfold J9 Jki;rw [List.foldl_append];simp only [List.foldl_cons,List.foldl_nil]
 by_cases hs:s.data=v.name.data
 ·rw [if_pos hs,if_pos hs];rfl
 ·rw [if_neg hs,if_neg hs];exact h s
theorem Jfz (w:World):(zeroValue 81).run Tryz.prog w = .ok (Jcf (0,⟨#[]⟩)) w:=Ue
def Z1 (L:List Va) (q:Qe):List ByteArray:=if (J9 L q.name).1=0 then Kx q.e else Kx q.e ++ [(J9 L q.name).2]
theorem Qn {a b c:World} {row:Option Nat} (h1:a.grownBy b row) (h2:b.grownBy c row):a.grownBy c row:=Yz h1 h2 (.inl rfl)
theorem Jzj:(Tryz.prog.info? 119).map (fun i=>(i.zero,i.size,i.bytes))=some (some (.slice none 0 0),1,24):=Ue
theorem Qf.off_own {w:World} {base:Nat} {e:TypeId} {l:List ByteArray} {A:Option Addr} {cap:Nat} (h:w.ownsRow base e 1 (.slice A l.length cap) l.length (l.map .string)):Off base none w (fun V=>Qf V l A cap):=by
 intro w' jC
 rcases Nat.eq_zero_or_pos l.length with h0|h0
 ·exact⟨(Qf.of_own h).1,(Qf.of_own h).2.1,fun hl=>absurd hl Ua⟩
 ·obtain⟨g,c',hv,hg,am,h1,h2,hc⟩:=Kc h h0;injection hv with e1 e2 e3;subst e1 e3;refine⟨h1,h2,fun _=>⟨g,0,rfl,fun k s hk=>?_⟩⟩;rw [Nat.zero_add];exact Jr (jC g hg am Uh) (hc k _ L3)
def Jde (L:List Va) (eqs:List Qe) (g k:Nat) (w:World) (xs:List Value):Prop:=
 (∀(j:Nat) (q:Qe),j<k->eqs[j]?=some q->∃A cap,xs[j]?=some (.slice A (Z1 L q).length cap)/\Off (g+1) none w (fun V=>Qf V (Z1 L q) A cap))/\∀j,k<=j->j<eqs.length->xs[j]?=some (.slice none 0 0)
theorem Jt6 {w w':World} {base size n n' cap g:Nat} {e:TypeId} {xs:List Value} (h:w.ownsRow base e size (.slice (some ⟨g,0,none⟩) n' cap) n xs) (hb:w'.heap[g]?=w.heap[g]?):w'.ownsRow base e size (.slice (some ⟨g,0,none⟩) n' cap) n xs:=by
 obtain⟨h1,h2⟩:=h;refine⟨h1,?_⟩
 rcases h2 with h2|⟨g',cap',cur,hv,hg,hh,r⟩
 ·exact .inl h2
 ·refine .inr ⟨g',cap',cur,hv,hg,?_,r⟩;have hgg:g=g':=by injection hv with e1;injection e1 with e1;injection e1
  rw [<-hgg] at hh ⊢;rw [hb];exact hh
theorem Jde.step {L:List Va} {eqs:List Qe} {g k:Nat} {w w':World} {xs:List Value} {q:Qe} {A:Option Addr} {cap:Nat} (h:Jde L eqs g k w xs) (hw:∀b,g+1<=b->b<w.heap.size->w'.heap[b]?=w.heap[b]?) (hz:w.heap.size<=w'.heap.size)
  (hq:eqs[k]?=some q) (hx:k<xs.length) (fb:Off (g+1) none w' (fun V=>Qf V (Z1 L q) A cap)):Jde L eqs g (k+1) w' (xs.set k (.slice A (Z1 L q).length cap)):=by
 refine⟨fun j q' hj tt=>?_,fun j hj hl=>?_⟩
 ·rcases Nat.lt_or_ge j k with tB|tB
  ·obtain⟨A',cap',h1,h2⟩:=h.1 j q' tB tt;exact⟨A',cap',by rw [List.getElem?_set_ne Ua];exact h1,h2.grow (fun b hb am _=>hw b hb am) hz (.inl rfl)⟩
  ·obtain rfl:j=k:=Ua;obtain rfl:q=q':=by rw [hq] at tt;injection tt
   exact⟨A,cap,by rw [List.getElem?_set_self hx],fb⟩
 ·rw [List.getElem?_set_ne Ua];exact h.2 j Ua hl
theorem Jsz (p:Pr) (a:PrA) (w:World) (hp:Kr w p a) (n1:p.ins.length<=1000000) (n2:p.outs.length<=1000000) (n3:p.locals.length<=1000000) (n4:p.eqs.length<=1000000) (hs:∀v∈Je p,v.name.size<=maxLen) (dn:∀q∈p.eqs,q.name.size<=maxLen/\q.e.OK/\q.e.size<=1000000) :
  Calls Tryz.prog 122 #[prV p a] w fun r w'=>(∃g xs,r = .returned (.slice (some ⟨g,0,none⟩) p.eqs.length p.eqs.length)/\w.heap.size<=g/\w'.ownsRow g 119 1 (.slice (some ⟨g,0,none⟩) p.eqs.length p.eqs.length) p.eqs.length xs/\Jde (Je p) p.eqs g p.eqs.length w' xs)/\Below w.heap.size w w':=by
 have aJ:=fun W h=>Jcv p a W (hp.later h) n1 n2 n3;have hL3:(Je p).length<=3000000:=Su;obtain⟨A1,c1,A2,c2,A3,c3,A4,c4⟩:=a;unfold prV at *;dsimp only at *;have gI:=@run_makeMap Tryz.prog;generalize hL:Je p=L at *;clear hL;have HS:=Nf hs;clear hs;have jR:=Nf dn;clear dn;have bT:=hp.eqs;have cG:=hp.eqs.len;unfold maxLen at cG;dsimp only at bT cG;obtain⟨fT,fU⟩:=cG;obtain⟨ti,hti0,hti1,hti2,hti3⟩:=info_parts Jzj;clear hp
 go_enter Tryz.func122,Tryz.ntmps122
 go_wp2_with (first|(go_at_call 118;refine(aJ _ Jb).mono ?_;rintro r wb ⟨⟨A,cap,rfl,ae⟩,aH⟩;have el:=Jg aH;have dH:=aH.size;(try simp at dH);have cA:=lt0 w wb;have ep:=ltA w 1 wb;have cR:=Ju.of_own ae))
 refine Jo fun W0 ag=>?_;have ax:=Nd w W0 Uz;have bD:w.heap.size+1<W0.heap.size:=by rw [ag];exact ep
 have bE:Off (w.heap.size+2) none W0 (fun W=>Ju W L A cap):=by rw [ag];have:=Ju.off_own' ae;simpa using this
 have eU:Jaz Tryz.prog 9 W0 (w.heap.size+1) 0 (fun _=>none):=by
  rw [ag];have h1:=(Jaz.made (P:=Tryz.prog) (k:=9) (w.alloc (.cells #[.string p.name,.slice A1 p.ins.length c1,.slice A2 p.outs.length c2,.slice A3 p.locals.length c3,.slice A4 p.eqs.length c4] 38)));have h2:=h1.bel aH;exact Lw
 have p4:=Nb W0 w.heap.size 4 (.slice A4 p.eqs.length c4) Uf;have cY:=bE.here.len;unfold maxLen at cY;obtain⟨fH,fI⟩:=cY;clear ag ae cR el aH dH cA ep aJ gI
 go_loopw [14] (fun i wr=>∃(k n:Nat) (f:ByteArray->Option Value),k<=L.length/\i = .int .i64 k/\n<=k/\Hid (Jaz Tryz.prog 9 wr (w.heap.size+1) n f)/\Hid (Jkd f (L.take k))/\Hid (W0.grownBy wr (some (w.heap.size+1)))) (fun i _=>L.length-(intOf i).toNat)
 case atStart=>exact⟨0,0,_,Np,rfl,Ns _,Nf eU,Nf Jo8,Nf ⟨rfl,rfl,rfl,Ns _,fun _ _ _=>rfl⟩⟩
 case round=>
  obtain⟨k,n,f,hk,rfl,hn,hm,aN,bB⟩:=hrel;have eC:=bB.out.size
  by_cases am:k<L.length
  ·have hx:L[k]?=some L[k]:=Ng am;have aj:L[k]∈L:=Nj am;have aP:L.take (k+1)=L.take k ++ [L[k]]:=U7;generalize L[k]=x at hx aj aP;have jg:Ju wr L A cap:=bE wr fun b h1 h2 _=>bB.out.block b h2 U2;obtain⟨b,off,rfl,aH,⟨d0,d1,d2,d3⟩⟩:=jg.get hx;have dT:=HS.out x aj;have jy:=Nf (by rw [aP];exact Jmq aN.out x:Jkd (Jki f x.name (Jcf (x.ck,x.cn))) (L.take (k+1)));have ej:=hm.out;have bu:=ltA w 1 wr;clear hx aj aP jg aN
   go_wp2_with (first|(at_mapUpdate;go_loud (refine Jlj rfl (.tmp 18) (.tmp 20) (.tmp 22) 205 rfl Tryz.underlying9 Tryz.underlying205 (w.heap.size+1) n f x.name (Jcf (x.ck,x.cn)) rfl (ej.keep1 (heap_alloc_old _ _ bu)) Ua rfl rfl dT ?_;intro w2 cI aG;have kj:=Nf cI;have kr:=Nf aG;clear cI aG)))
   go_roundw
   case rel=>exact⟨k+1,n+1,_,Ua,Uw,Ua,kj,jy,Nf (Qn bB.out (Qn (World.grownBy_alloc wr _ _) kr.out))⟩
   case measure=>simp [intOf];omega
  ·obtain rfl:k=L.length:=Ua;have iw:=hm.out;have mB:=aN.out;rw [List.take_length] at mB;have jy:=Nf mB;have ez:=bB.out;have aC:=Nd w wr (Kou ax ez (fun b hb=>Uv) Ua);have q4:=Nb wr w.heap.size 4 (.slice A4 p.eqs.length c4) (Jr (ez.block w.heap.size Ua U2) p4);have bu:=ltA w 1 wr;clear bB ez aN mB hm p4 bE
   go_wp2_with (first|(at_make;go_loud (refine wpList_make_full _ rfl (.tmp 26) (.tmp 26) 236 rfl wr.heap.size 119 ti _ 1 Tryz.underlying236 hti0 hti1 hti2 .i64 .i64 p.eqs.length p.eqs.length p.eqs.length rfl rfl rfl rfl (by rw [hti3];omega) Uo (Ns _) ?_;intro w2 ao aG;have q42:=Nb w2 w.heap.size 4 (.slice A4 p.eqs.length c4) (Jr (aG.block w.heap.size Ua Uh) q4);have sK:=Nf ao;have kr:=Nf aG;clear ao aG)))
   obtain⟨Wa,rfl⟩:∃Wa,Wa=wr:=⟨wr,rfl⟩;have iY:=Nd w w2 (Kou aC kr.out (fun b hb=>by simp at hb) Ua);have br:Wa.heap.size<=w2.heap.size:=kr.out.size;have cI:Hid (Jaz Tryz.prog 9 w2 (w.heap.size+1) n f):=Nf (iw.keep1 (kr.out.block _ Ua Uh));clear iw q4
   go_loopw [31] (fun i wr=>∃(k:Nat) (xs:List Value),k<=p.eqs.length/\i = .int .i64 k/\Hid (wr.ownsRow Wa.heap.size 119 1 (.slice (some ⟨Wa.heap.size,0,none⟩) p.eqs.length p.eqs.length) p.eqs.length xs)/\Hid (Jde L p.eqs Wa.heap.size k wr xs)/\Hid (w2.grownBy wr (some Wa.heap.size))) (fun i _=>p.eqs.length-(intOf i).toNat)
   case atStart=>
    refine⟨0,_,Np,rfl,sK,Nf ⟨fun j q hj=>absurd hj Ua,fun j _ hj=>?_⟩,Nf ⟨rfl,rfl,rfl,Ns _,fun _ _ _=>rfl⟩⟩;rw [show(Value.slice none 0 0).cells = #[Value.slice none 0 0] from rfl,Nat.mul_one,toList_madeCells_one,List.getElem?_replicate,if_pos hj]
   case round=>
    obtain⟨k,xs,hk,rfl,ae,vE,bB⟩:=hrel;have eC:=bB.out.size;have dh:=Nd w wr (Kou iY bB.out (fun b hb=>Uv) Ua);have hGlt:Wa.heap.size<wr.heap.size:=(ae.out.lt Wa.heap.size rfl).2
    by_cases am:k<p.eqs.length
    ·obtain⟨q,hx,-,hd⟩:=Kl am;obtain⟨b,off,B1,n1,B2,n2,rfl,aH,⟨g0,g1,g2,g3,g4,g5,g6,g7,g8,g9,s1,s2⟩⟩:=(bT.later dh).get hx;have aj:=Ni hx;obtain⟨dw,gV,ju⟩:=jR.out q aj;have fP:=fun W h=>Jvk q.e B2 n2 W (s2.later h) gV ju;have e0:=Nb wr Wa.heap.size k (.slice none 0 0) ((ae.out.cellAt k Ua).trans (vE.out.2 k (Ns _) am));have f0:=Nc wr Wa.heap.size k (ae.out.frozenAt k);have ej:=cI.out.keep1 (bB.out.block (w.heap.size+1) Ua U2);obtain⟨ck,cs,bO⟩:∃ck cs,J9 L q.name=(ck,cs):=⟨_,_,rfl⟩;have mK:=Nf bO;clear bO;have HX:=Nf hx;have yf:=ltA w 1 wr;unfold exV at fP;clear hd hx aj gV;have lB:xs.length=p.eqs.length:=by have:=ae.out.1;omega
     have HXL:=Nf lB;clear lB
     by_cases ob:ck=0
     ·have t1:(ck != 0)=false:=by simpa using ob
      have hnq:Z1 L q=Kx q.e:=by unfold Z1;rw [mK.out,if_pos ob]
      have HNQ:=Nf hnq;clear hnq ob
      go_wp2_with (first|(go_at_call 136;go_loud (refine(fP _ Jb).mono ?_;rintro r wn ⟨⟨vn,rfl,ay⟩,dI⟩;obtain⟨An,cn,rfl,eR,eu⟩:=Jv ay;have qJ:=Jg dI;have lF:=Jf dI;have qp:wr.heap.size+1<=wn.heap.size:=(by have:=dI.size;simpa using this);have xa:=lt0 w wn;have hyn1:=ltA w 1 wn;have qq:=lt0 wr wn;have hyn3:=lt0 Wa wn;have hmn:=Nf (ej.keep1 ((dI.block (w.heap.size+1) Ui).trans (heap_alloc_old _ _ yf)));have jZ:=Nf ay;clear ay))|(at_lookup;go_loud (refine Jel rfl (.tmp 42) (.tmp 44) 205 rfl Tryz.underlying9 Tryz.underlying205 (Jcf (0,⟨#[]⟩)) (Jfz _) (w.heap.size+1) n f q.name rfl (hmn.out.keep1 (heap_setCell_other _ _ _ _ (by show w.heap.size+1≠Wa.heap.size;omega))) rfl dw ?_;rw [jy.out q.name,mK.out];unfold Jcf)))
      go_roundw
      case rel=>
       have qr:=Jy (Js (o:= .cells #[.string q.name,.int .i64 q.delay,.int .i64 q.first.kind,.int .i32 q.first.n,.string q.first.name,.slice B1 q.first.sub.length n1,.int .i64 q.e.kind,.int .i32 q.e.n,.string q.e.name,.slice B2 q.e.sub.length n2] 75) ae.out) dI;have cP:=qr.stored k (.slice An (Kx q.e).length cn);refine⟨k+1,xs.set k (.slice An (Kx q.e).length cn),Ua,Uw,Nf (Js cP.1),Nf ?_,Nf (Qn (Qn (Qn (Qn bB.out (World.grownBy_alloc wr _ _)) (Jat dI)) cP.2) (World.grownBy_alloc _ _ _))⟩
       have fb:Off (Wa.heap.size+1) none ((wn.setCell ⟨Wa.heap.size,k,none⟩ (.slice An (Kx q.e).length cn)).alloc (.cells #[.int .i64 ck,.string cs] 81)) (fun V=>Qf V (Z1 L q) An cn):=by
        rw [HNQ.out];exact((Qf.off_own jZ.out).less (base:=Wa.heap.size+1) Ui).grow (fun b ac aq _=>(heap_alloc_old _ _ (by simpa using aq)).trans (heap_setCell_other _ _ _ _ Ss)) Uh (.inl rfl)
       have:=vE.out.step (w':=(wn.setCell ⟨Wa.heap.size,k,none⟩ (.slice An (Kx q.e).length cn)).alloc (.cells #[.int .i64 ck,.string cs] 81)) (fun b ac aq=>(heap_alloc_old _ _ Ui).trans ((heap_setCell_other _ _ _ _ Ss).trans ((dI.block b Ui).trans (heap_alloc_old _ _ aq)))) Ui HX.out (by rw [HXL.out];exact am) fb;rw [HNQ.out] at this;exact this
      case measure=>simp [intOf];omega
     ·have t1:(ck != 0)=true:=by simpa using ob
      have hnq:Z1 L q=Kx q.e ++ [cs]:=by unfold Z1;rw [mK.out,if_neg ob]
      have HNQ:=Nf hnq;clear hnq ob;have jV:=Jmt q.e
      go_wp2_with (first|(go_at_call 136;go_loud (refine(fP _ Jb).mono ?_;rintro r wn ⟨⟨vn,rfl,ay⟩,dI⟩;obtain⟨An,cn,rfl,eR,eu⟩:=Jv ay;have qJ:=Jg dI;have lF:=Jf dI;have qp:wr.heap.size+1<=wn.heap.size:=(by have:=dI.size;simpa using this);have xa:=lt0 w wn;have hyn1:=ltA w 1 wn;have qq:=lt0 wr wn;have hyn3:=lt0 Wa wn;have hmn:=Nf (ej.keep1 ((dI.block (w.heap.size+1) Ui).trans (heap_alloc_old _ _ yf)));have jZ:=Nf ay;clear ay))|(at_lookup;go_loud (refine Jel rfl (.tmp 42) (.tmp 44) 205 rfl Tryz.underlying9 Tryz.underlying205 (Jcf (0,⟨#[]⟩)) (Jfz _) (w.heap.size+1) n f q.name rfl (hmn.out.keep1 (heap_setCell_other _ _ _ _ (by show w.heap.size+1≠Wa.heap.size;omega))) rfl dw ?_;rw [jy.out q.name,mK.out];unfold Jcf)))
      have jI:wn.ownsRow (wr.heap.size+1) 9 1 (.slice An (Kx q.e).length cn) (Kx q.e).length ((Kx q.e).map .string):=by have:=jZ.out;simpa using this
      have hownX:((wn.setCell ⟨Wa.heap.size,k,none⟩ (.slice An (Kx q.e).length cn)).alloc (.cells #[.int .i64 ck,.string cs] 81)).ownsRow (wr.heap.size+1) 9 1 (.slice An (Kx q.e).length cn) (Kx q.e).length ((Kx q.e).map .string):=Js (Kn jI (fun b hb=>by have:=(jI.lt b hb).1;omega) _ _);have wk:=Nb wn Wa.heap.size k (.slice none 0 0) (Ja dI (Ja (Jc (Nt) _) e0));have wkf:=Nc wn Wa.heap.size k ((dI.frozen (p:=⟨Wa.heap.size,k,none⟩) (show Wa.heap.size<_ by simp;omega)).trans (((Jc (Nt) _).frozen (p:=⟨Wa.heap.size,k,none⟩) hGlt).trans f0));have xk:((wn.setCell ⟨Wa.heap.size,k,none⟩ (.slice An (Kx q.e).length cn)).alloc (.cells #[.int .i64 ck,.string cs] 81)).cell? ⟨Wa.heap.size,k,none⟩=some (.slice An (Kx q.e).length cn):=Uc;have xf:((wn.setCell ⟨Wa.heap.size,k,none⟩ (.slice An (Kx q.e).length cn)).alloc (.cells #[.int .i64 ck,.string cs] 81)).frozen? ⟨Wa.heap.size,k,none⟩=false:=Uc;have XK:=Nf xk;have XF:=Nf xf;clear xk xf;have hrz:wr.heap.size+1<=wn.heap.size:=qp
      go_region_law (first
       | (refine Jg1 rfl (.tmp 54) (.tmp 57) 119 rfl (wr.heap.size+1) 9 _ 1 16 Tryz.underlying119 Zq rfl Ua (.slice An (Kx q.e).length cn) (Kx q.e).length ((Kx q.e).map .string) (some ⟨wn.heap.size+1,0,none⟩) 1 1 [.string cs] rfl (Js (Kp hownX)) rfl ⟨rfl,fun _=>⟨_,_,rfl,fun j u hj=>by rw [Nat.zero_add];exact(Qo Uh).trans Ma⟩⟩ Vg Ua Ua Ui ?_;intro v9 w9 dL nh;go_loud (obtain⟨A9,c9,rfl,hc91,hc92⟩:=Jv dL;have k9:=Nb w9 Wa.heap.size k (.slice An (Kx q.e).length cn) ((nh.cell (p:=⟨Wa.heap.size,k,none⟩) (show Wa.heap.size<wr.heap.size+1 by omega)).trans (Ja (Jc (Nt) _) (Zw XK.out)));have k9f:=Nc w9 Wa.heap.size k ((nh.frozen (p:=⟨Wa.heap.size,k,none⟩) (show Wa.heap.size<wr.heap.size+1 by omega)).trans (((Jc (Jh (Nt)) _).frozen (p:=⟨Wa.heap.size,k,none⟩) (show Wa.heap.size<_ by simp;omega)).trans XF.out));have HO9:=Nf dL;have HB9:=Nf nh;clear dL nh)))
      all_goals
       go_wp2_with fail
       go_roundw
       case rel=>
        have qr:=Jy (Js (o:= .cells #[.string q.name,.int .i64 q.delay,.int .i64 q.first.kind,.int .i32 q.first.n,.string q.first.name,.slice B1 q.first.sub.length n1,.int .i64 q.e.kind,.int .i32 q.e.n,.string q.e.name,.slice B2 q.e.sub.length n2] 75) ae.out) dI;have cP:=qr.stored k (.slice An (Kx q.e).length cn);have hz9:=HB9.out.size;have gH:wn.heap.size<=w9.heap.size:=by refine Nat.le_trans ?_ hz9;show wn.heap.size<=(World.alloc _ _).heap.size;simp;omega
        have hX:∀b,b<wr.heap.size->w9.heap[b]?=(wn.setCell ⟨Wa.heap.size,k,none⟩ (.slice An (Kx q.e).length cn)).heap[b]?:=fun b hb=>
         (HB9.out.block b Ua).trans ((heap_alloc_old _ _ Ui).trans (heap_alloc_old _ _ Ui))
        have vR:=(Jt6 cP.1 (hX _ hGlt)).stored k (.slice A9 ((Kx q.e).length+1) c9);rw [List.set_set] at vR;have rG:wr.grownBy w9 (some Wa.heap.size):=⟨HB9.out.os.trans dI.os,HB9.out.tape.trans dI.tape,HB9.out.output.trans dI.output,Ua,fun b hb aS=>(hX b hb).trans ((heap_setCell_other _ _ _ _ (by show b≠Wa.heap.size;intro h;exact aS (by rw [h]))).trans ((dI.block b Ui).trans (heap_alloc_old _ _ hb)))⟩;have hgf:=Qn rG vR.2;refine⟨k+1,xs.set k (.slice A9 ((Kx q.e).length+1) c9),Ua,Uw,Nf vR.1,Nf ?_,Nf (Qn bB.out hgf)⟩
        have fb:Off (Wa.heap.size+1) none (w9.setCell ⟨Wa.heap.size,k,none⟩ (.slice A9 ((Kx q.e).length+1) c9)) (fun V=>Qf V (Z1 L q) A9 c9):=by
         have ho:=HO9.out;rw [HNQ.out];have jm:w9.ownsRow (wr.heap.size+1) 9 1 (.slice A9 (Kx q.e ++ [cs]).length c9) (Kx q.e ++ [cs]).length ((Kx q.e ++ [cs]).map .string):=by rw [List.map_append,Nk];exact ho
         exact((Qf.off_own jm).grow (fun b ac aq _=>heap_setCell_other _ _ _ _ Ss) Uh (.inl rfl)).less Ua
        have:=vE.out.step (fun b ac aq=>hgf.block b aq (by intro h;injection h with h;omega)) hgf.size HX.out (by rw [HXL.out];exact am) fb;rw [show(Z1 L q).length=(Kx q.e).length+1 by rw [HNQ.out];simp] at this;exact this
       case measure=>simp [intOf];omega
    ·obtain rfl:k=p.eqs.length:=Ua;have HB:=Nf dh;clear dh
     go_wp2_with fail
     go_ret;exact⟨⟨Wa.heap.size,xs,rfl,Ua,ae.out,vE.out⟩,HB.out⟩
end Go.Proofs.YtdgjplldlfeolaaGreatDoor
namespace Go.Proofs.YtdgjplldlfeolaaGreatDoor
open Go.RowKit
def Yd (R:List ByteArray) (nd:Qe->List ByteArray):Nat->List Qe->Int×Int
 | _,[]=>(-1,-1)
 | k,q :: r=>if Ka R q.name=true then Yd R nd (k+1) r else((k:Int),if (nd q).all (Ka R)=true then(k:Int) else(Yd R nd (k+1) r).2)
def Jbi (f:ByteArray->Option Int) (nd:Qe->List ByteArray):Nat->List Qe->Int->Int×Int
 | _,[],m=>(m,-1)
 | k,q :: r,m=>if f q.name=some (k:Int) then(if Jb2 f (nd q)=true then(if m<0 then(k:Int) else m,(k:Int)) else Jbi f nd (k+1) r (if m<0 then(k:Int) else m)) else Jbi f nd (k+1) r m
theorem Jmd {R:List ByteArray} {f:ByteArray->Option Int} {nr np:Qe->List ByteArray} : ∀(l:List Qe) (k:Nat) (m:Int),(m = -1\/0<=m)->
  (∀(i:Nat) (q:Qe),l[i]?=some q->(f q.name=some ((k+i:Nat):Int)<->Ka R q.name=false))->(∀q∈l,Ka R q.name=false->Jb2 f (np q)=(nr q).all (Ka R))->
  (Jbi f np k l m).2=(Yd R nr k l).2/\((Yd R nr k l).2<0->(Jbi f np k l m).1=if m<0 then(Yd R nr k l).1 else m)
 | [],k,m,eU,_,_=>by
  refine⟨rfl,fun _=>?_⟩;simp only [Jbi,Yd]
  by_cases hm:m<0
  ·rw [if_pos hm];omega
  ·rw [if_neg hm]
 | q :: r,k,m,eU,h1,h2=>by
  have hq:=h1 0 q rfl;rw [Nat.add_zero] at hq
  have h1':∀(i:Nat) (q:Qe),r[i]?=some q->(f q.name=some ((k+1+i:Nat):Int)<->Ka R q.name=false):=fun i x hx=>by
   have:=h1 (i+1) x Do
   rwa [show k+(i+1)=k+1+i from by omega] at this
  have tA:∀x∈r,Ka R x.name=false->Jb2 f (np x)=(nr x).all (Ka R):=fun x hx=>h2 x L8
  cases hb:Ka R q.name
  ·have hf:=hq.2 hb;have hr:=h2 q Uh hb;rw [Jbi,Yd,if_pos hf,hb,if_neg (show ¬(false=true) by simp),hr]
   cases ha:(nr q).all (Ka R)
   ·rw [if_neg (show ¬(false=true) by simp),if_neg (show ¬(false=true) by simp)];obtain⟨e1,e2⟩:=Jmd r (k+1) (if m<0 then(k:Int) else m) (by split <;> omega) h1' tA;refine⟨e1,fun am=>?_⟩;rw [e2 am]
    by_cases hm:m<0
    ·simp only [if_pos hm];rw [if_neg Ua]
    ·simp only [if_neg hm]
   ·rw [if_pos rfl,if_pos rfl];exact⟨rfl,fun am=>absurd am (by show ¬((k:Int)<0);omega)⟩
  ·have hf:¬f q.name=some (k:Int):=fun h=>by have:=hq.1 h;rw [hb] at this;simp at this
   rw [Jbi,Yd,if_neg hf,hb,if_pos rfl];exact Jmd r (k+1) m eU h1' tA
def Za (eqs:List Qe) (j:Int):ByteArray:=match eqs[j.toNat]? with|some q=>q.name|none=>⟨#[]⟩
def Jfk (nd:Qe->List ByteArray) (eqs:List Qe) (left:Nat):Nat->List ByteArray->List Int->List Int×(Int×Int×Int)
 | 0,_,out=>(out,(0,0,0))
 | t+1,R,out=>if out.length<left then(if (Yd R nd 0 eqs).2<0 then([],(3,(Yd R nd 0 eqs).1,22)) else Jfk nd eqs left t (R ++ [Za eqs (Yd R nd 0 eqs).2]) (out ++ [(Yd R nd 0 eqs).2])) else(out,(0,0,0))
def Jj9 (nd:Qe->List ByteArray) (eqs:List Qe):Nat->(ByteArray->Option Int)->Nat->List Int->List Int×(Int×Int×Int)
 | 0,_,_,out=>(out,(0,0,0))
 | t+1,f,c,out=>if 0<c then(if (Jbi f nd 0 eqs (-1)).2<0 then([],(3,(Jbi f nd 0 eqs (-1)).1,22)) else Jj9 nd eqs t (Jck f (Za eqs (Jbi f nd 0 eqs (-1)).2)) (c-1) (out ++ [(Jbi f nd 0 eqs (-1)).2])) else(out,(0,0,0))
theorem Jgw {s t:ByteArray} : (s.toList == t.toList)=decide (s.data=t.data):=by
 rw [Bool.eq_iff_iff,Zf];simp only [decide_eq_true_eq];exact⟨fun h=>by rw [h],fun h=>by ext1;exact h⟩
theorem Jqx {f:ByteArray->Option Int} {R:List ByteArray} {s s0:ByteArray} {i:Int} (h:f s=some i<->Ka R s=false):Jck f s0 s=some i<->Ka (R ++ [s0]) s=false:=by
 exact Uae
theorem Jqd {f:ByteArray->Option Int} {R:List ByteArray} {s s0:ByteArray} (h:(f s).isSome=!Ka R s):(Jck f s0 s).isSome=!Ka (R ++ [s0]) s:=by
 exact Uae
theorem Jnn {f:ByteArray->Option Int} {R:List ByteArray} : ∀ {l:List ByteArray},(∀s∈l,(f s).isSome=!Ka R s)->Jb2 f l=l.all (Ka R)
 | [],_=>rfl
 | s :: l,h=>by
  have h1:=h s Uh;have h2:=Jnn (l:=l) fun x hx=>h x L8;unfold Jb2 at h2 ⊢;rw [List.all_cons,List.all_cons,h2,h1,Bool.not_not]
theorem Jue {nr np:Qe->List ByteArray} {eqs:List Qe} {left:Nat} (bW:∀q∈eqs,∀R,(np q).all (Ka R)=(nr q).all (Ka R)):∀(t:Nat) (f:ByteArray->Option Int) (R:List ByteArray) (c:Nat) (out:List Int),
  out.length+c=left->(∀(i:Nat) (q:Qe),eqs[i]?=some q->(f q.name=some (i:Int)<->Ka R q.name=false))->(∀q∈eqs,∀s∈np q,(f s).isSome=!Ka R s)->
  Jj9 np eqs t f c out=Jfk nr eqs left t R out
 | 0,f,R,c,out,_,_,_=>rfl
 | t+1,f,R,c,out,hc,hw,hi=>by
  obtain⟨e1,e2⟩:=Jmd (R:=R) (f:=f) (nr:=nr) (np:=np) eqs 0 (-1) (.inl rfl) (fun i q hq=>by rw [Nat.zero_add];exact hw i q hq) (fun q hq _=>(Jnn (hi q hq)).trans (bW q hq R));rw [Jj9,Jfk,e1]
  by_cases h0:0<c
  ·rw [if_pos h0,if_pos (show out.length<left by omega)]
   by_cases hn:(Yd R nr 0 eqs).2<0
   ·rw [if_pos hn,if_pos hn,e2 hn,if_pos Ua]
   ·rw [if_neg hn,if_neg hn];exact Jue bW t _ _ (c-1) _ Ui (fun i q hq=>Jqx (hw i q hq)) (fun q hq s hs=>Jqd (hi q hq s hs))
  ·rw [if_neg h0,if_neg (show ¬out.length<left by omega)]
end Go.Proofs.YtdgjplldlfeolaaGreatDoor
namespace Go.Proofs.YtdgjplldlfeolaaGreatDoor
open Go.RowKit Go.Sort
theorem Jzq:(Tryz.prog.info? 75).map (fun i=>(i.zero,i.size,i.bytes))=some (some (.agg #[.string ⟨#[]⟩,.int .i64 0,.int .i64 0,.int .i32 0,.string ⟨#[]⟩,.slice none 0 0,.int .i64 0,.int .i32 0,.string ⟨#[]⟩,.slice none 0 0]),10,136):=Ue
theorem Jle {P:Program} {f:FuncId} {args:Array Value} {R:Ending->World->Prop} {W:World} (h:∀W0,W0=W->Calls P f args W0 R):Calls P f args W R:=h W rfl
def Jc4 (B:Nat) (v:Value) (wr:World) (l:List Qe) (ls:List ((Option Addr×Nat)×(Option Addr×Nat))):Prop:=
 ∀(j:Nat) (q:Qe) (a:(Option Addr×Nat)×(Option Addr×Nat)),l[j]?=some q->ls[j]?=some a->Off B v.ownBlock wr (fun V=>Jt V q.first a.1.1 a.1.2/\Jt V q.e a.2.1 a.2.2)
theorem Jc4.step {B m1 m2:Nat} {v v2:Value} {wr w1 w2 w3:World} {l:List Qe} {q:Qe} {ls:List ((Option Addr×Nat)×(Option Addr×Nat))} {k:Nat} {a:(Option Addr×Nat)×(Option Addr×Nat)}
  (h:Jc4 B v wr l ls) (hk:ls.length=k) (hq:l[k]?=some q) (hB:B<=wr.heap.size) (iw:wr.heap.size<=m1) (cI:wr.heap.size<=m2)
  (n1:Off m1 none w1 (fun V=>Jt V q.first a.1.1 a.1.2)) (n2:Off m2 none w2 (fun V=>Jt V q.e a.2.1 a.2.2))
  (s0:∀b,b<wr.heap.size->some b≠v.ownBlock->w3.heap[b]?=wr.heap[b]?) (s1:∀b,m1<=b->b<w1.heap.size->w3.heap[b]?=w1.heap[b]?) (s2:∀b,m2<=b->b<w2.heap.size->w3.heap[b]?=w2.heap[b]?)
  (z1:w1.heap.size<=w2.heap.size) (z2:w2.heap.size<=w3.heap.size) (z0:wr.heap.size<=w1.heap.size)
  (hv:∀b,v.ownBlock=some b->b<wr.heap.size) (aI:v2.ownBlock=v.ownBlock\/∀b,v2.ownBlock=some b->w2.heap.size<=b):Jc4 B v2 w3 l (ls ++ [a]):=by
 have jv:∀b,v2.ownBlock=some b->b<wr.heap.size\/w2.heap.size<=b:=fun b hb=>by
  rcases aI with aI|aI
  ·rw [aI] at hb;exact .inl (hv b hb)
  ·exact .inr (aI b hb)
 intro j x c hx hc
 rcases Nat.lt_or_ge j ls.length with hj|hj
 ·rw [List.getElem?_append_left hj] at hc;refine(h j x c hx hc).grow (fun b _ hb aS=>s0 b hb aS) Ua ?_
  rcases aI with aI|aI
  ·exact .inl aI
  ·exact .inr fun b hb=>by have:=aI b hb;omega
 ·obtain rfl:j=ls.length:=by
   have:=(Nh hc).1;simp at this;omega
  rw [List.getElem?_append_right (Ns _)] at hc;simp at hc;subst hc;obtain rfl:q=x:=by rw [<-hk,hx] at hq;injection hq with hq;exact hq.symm
  have f1:Off B v2.ownBlock w3 (fun V=>Jt V q.first a.1.1 a.1.2):=n1.fresh Ua s1 Ua fun b hb=>by have:=jv b hb;omega
  have f2:Off B v2.ownBlock w3 (fun V=>Jt V q.e a.2.1 a.2.2):=n2.fresh Ua s2 Ua fun b hb=>by have:=jv b hb;omega
  exact fun w' jC=>⟨f1 w' jC,f2 w' jC⟩
theorem Jc4.set {B z:Nat} {v:Value} {w:World} {l:List Qe} {ls:List ((Option Addr×Nat)×(Option Addr×Nat))} (h:Jc4 B v w l ls) (hz:z<B) (o:Nat) (u:Value):Jc4 B v (w.setCell ⟨z,o,none⟩ u) l ls:=
 fun j x c hx hc=>(h j x c hx hc).grow (fun b hb _ _=>heap_setCell_other w ⟨z,o,none⟩ b u (by show b≠z;omega)) Uh (.inl rfl)
end Go.Proofs.YtdgjplldlfeolaaGreatDoor
