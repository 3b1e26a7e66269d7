/- Lemmas. -/
import Derived.Test.YtknfcamdfdfoeaaGreatDoorMac
import Derived.Test.YtknfcamdfdfoeaaGreatDoorZ01
import Derived.Test.YtknfcamdfdfoeaaGreatDoorZ05
import Derived.Test.YtknfcamdfdfoeaaGreatDoorZ06
import Derived.Test.YtknfcamdfdfoeaaGreatDoorZ02
import Derived.Test.YtknfcamdfdfoeaaGreatDoorZ00
import Derived.Test.YtknfcamdfdfoeaaGreatDoorZ03
set_option linter.unusedVariables false
set_option linter.unusedSimpArgs false
set_option maxRecDepth 100000
set_option maxHeartbeats 64000000
namespace Go.Proofs.YtknfcamdfdfoeaaGreatDoor
open Go.RowKit
def Ka (l:List ByteArray) (s:ByteArray):Bool:=l.any fun x=>x.toList == s.toList
theorem Ju7 (x:ByteArray) (l:List ByteArray) (s:ByteArray):Ka (x :: l) s=(x.toList == s.toList || Ka l s):=rfl
theorem Jcx (l:List ByteArray) (x s:ByteArray):Ka (l ++ [x]) s=(Ka l s || x.toList == s.toList):=by
 unfold Ka;rw [List.any_append];simp
def Yw (l:List ByteArray) (s:ByteArray):List ByteArray:=if s.toList.isEmpty=true then l else if Ka l s=true then l else l ++ [s]
theorem Jj5 (l:List ByteArray) (s:ByteArray):l.length<=(Yw l s).length/\(Yw l s).length<=l.length+1:=by
 unfold Yw
 split
 ·exact Ua
 ·split
  ·exact Ua
  ·exact Ul
namespace Ex
mutual
def named:List ByteArray->Ex->List ByteArray
 | l,mk _ _ s sub=>namedL (Yw l s) sub
def namedL:List ByteArray->List Ex->List ByteArray
 | l,[]=>l
 | l,x :: r=>namedL (named l x) r
end
theorem named_eq (l:List ByteArray) (e:Ex):e.named l=namedL (Yw l e.name) e.sub:=by cases e;rw [named];rfl
theorem Jlq:∀(r:List Ex),(∀x∈r,∀l,l.length<=(named l x).length/\(named l x).length<=l.length+x.size)->∀l,l.length<=(namedL l r).length/\(namedL l r).length<=l.length+sizeL r
 | [],_,l=>by simp [namedL]
 | x :: r,h,l=>by
  have h1:=h x Ul l;have h2:=Jlq r (fun y hy=>h y F0) (named l x);simp only [namedL,sizeL];exact Ua
theorem named_len (e:Ex):∀l,l.length<=(named l e).length/\(named l e).length<=l.length+e.size:=by
 induction e using ind with
 | h e ih=>
  intro l;have h1:=Jj5 l e.name;have h2:=Jlq e.sub ih (Yw l e.name);rw [named_eq,size_eq];omega
end Ex
def Kx (e:Ex):List ByteArray:=if 120<e.count 121 then [] else e.named []
end Go.Proofs.YtknfcamdfdfoeaaGreatDoor
namespace Go.Proofs.YtknfcamdfdfoeaaGreatDoor
open Go.RowKit Go.Sort
theorem Yu (l:List ByteArray) (A:Option Addr) (cap:Nat) (s:ByteArray) (w:World) (hl:Qf w l A cap) :
  Calls Tryz.prog 54 #[.slice A l.length cap,.string s] w fun r w'=>r = .returned (.bool (Ka l s))/\Below w.heap.size w w':=by
 have ai:=hl.len;unfold maxLen at ai;obtain⟨jD,jE⟩:=ai
 go_enter Tryz.func54,Tryz.ntmps54
 go_wp2_with fail
 go_loopw [5] (fun i wr=>∃k:Nat,k<=l.length/\i = .int .i64 k/\Ka (l.drop k) s=Ka l s/\Below w.heap.size w wr) (fun i _=>l.length-(intOf i).toNat)
 case atStart=>exact⟨0,Nat.zero_le _,rfl,rfl,Jb⟩
 case round=>
  obtain⟨k,hk,rfl,aa,ab⟩:=hrel
  by_cases am:k<l.length
  ·have hx:l[k]?=some l[k]:=List.getElem?_eq_getElem am;have hd:l.drop k=l[k] :: l.drop (k+1):=List.drop_eq_getElem_cons am;generalize l[k]=x at hx hd;obtain⟨b,off,rfl,aH,d0⟩:=(hl.later ab).get hx;rw [hd,Ju7] at aa;exact Uax
  ·exact Ub1
theorem Qf.of_own {w:World} {base:Nat} {e:TypeId} {l:List ByteArray} {A:Option Addr} {cap:Nat} (h:w.ownsRow base e 1 (.slice A l.length cap) l.length (l.map .string)):Qf w l A cap:=by
 exact Uaw
theorem Yz {a b c:World} {r0 r1:Option Nat} (h1:a.grownBy b r0) (h2:b.grownBy c r1) (hr:r1=r0\/∀k,r1=some k->a.heap.size<=k):a.grownBy c r0:=
 ⟨h2.os.trans h1.os,h2.tape.trans h1.tape,h2.output.trans h1.output,Nat.le_trans h1.size h2.size,fun k hk aS=>(h2.block k (Nat.lt_of_lt_of_le hk h1.size) (by
  rcases hr with rfl|hr
  ·exact aS
  ·intro he;have:=hr k he.symm;omega)).trans (h1.block k hk aS)⟩
theorem Jat {a b:World} {r0:Option Nat} (h:Below a.heap.size a b):a.grownBy b r0:=⟨h.os,h.tape,h.output,h.size,fun k hk _=>h.block k hk⟩
def Jza (w0:World) (x:Ex):Prop:=∀(A:Option Addr) (c:Nat),Jt w0 x A c->∀(W:World) (v:Value) (l:List ByteArray),Below w0.heap.size w0 W->W.ownsRow w0.heap.size 9 1 v l.length (l.map .string)->l.length+x.size<=1000000->
  Calls Tryz.prog 121 #[v,exV x A c] W fun r w'=>(∃v',r = .returned v'/\w'.ownsRow w0.heap.size 9 1 v' (x.named l).length ((x.named l).map .string)/\(v'.ownBlock=v.ownBlock\/∀b,v'.ownBlock=some b->W.heap.size<=b))/\W.grownBy w' v.ownBlock
theorem Jtx (w0:World) (e:Ex):Jza w0 e:=by
 induction e using Ex.ind with
 | h e ih=>
 intro Ae ce he W v l dZ ae cE;obtain⟨Av,cv,rfl,zD,nL⟩:=Jv ae;have ai:=he.len;unfold maxLen at ai nL;obtain⟨bI,aD⟩:=ai;have hU:∀b,(Value.slice Av l.length cv).ownBlock=some b->w0.heap.size<=b/\b<W.heap.size:=fun b hb=>ae.lt b hb;have tL:=dZ.size;have hszz:=Ex.size_eq e;have cQ:=Jj5 l e.name;have bH:=Lib.hid (Ex.named_eq l e);have rQ:=fun W' h=>Yu l Av cv e.name W' ((Qf.of_own ae).later h);unfold exV
 have qi:∀(V1:Value) (a b:World),(V1.ownBlock=(Value.slice Av l.length cv).ownBlock\/∀k,V1.ownBlock=some k->W.heap.size<k)->a.grownBy b V1.ownBlock->W.heap.size<a.heap.size->∀u,a.cell? ⟨W.heap.size,3,none⟩=some u->b.cell? ⟨W.heap.size,3,none⟩=some u:=by
  intro V1 a b h hg hz u hu;refine Jr (hg.block W.heap.size hz fun he=>?_) hu
  rcases h with h|h
  ·rw [h] at he;have:=(hU _ he.symm).2;exact Ua
  ·have:=h _ he.symm;exact Ua
 have HK:=Lib.hid qi;clear qi;have kS:=Lib.hid hU;clear hU
 cases aL:e.name.toList.isEmpty
 case true=>
  have fw:Yw l e.name=l:=by unfold Yw;rw [if_pos aL]
  rw [fw] at bH cQ;clear fw
  go_enter Tryz.func121,Tryz.ntmps121
  go_wp2_with fail
  refine Jo fun W0 ag=>?_;have eo:W0.ownsRow w0.heap.size 9 1 (.slice Av l.length cv) l.length (l.map .string):=by rw [ag];exact ae.alloc _
  have iW:(Value.slice Av l.length cv).ownBlock=(Value.slice Av l.length cv).ownBlock\/∀b,(Value.slice Av l.length cv).ownBlock=some b->W.heap.size<b:= .inl rfl;have qj:W.grownBy W0 (Value.slice Av l.length cv).ownBlock:=by rw [ag];exact World.grownBy_alloc W _ _
  have ss:W0.cell? ⟨W.heap.size,3,none⟩=some (.slice Ae e.sub.length ce):=Uc;have bD:W.heap.size<W0.heap.size:=La;clear ag;exact Tu
 case false=>
  cases hh:Ka l e.name
  case true=>
   have fw:Yw l e.name=l:=by unfold Yw;rw [aL,if_neg Ul,if_pos hh]
   rw [fw] at bH cQ;rw [hh] at rQ;clear fw hh
   go_enter Tryz.func121,Tryz.ntmps121
   go_wp2_with (first|(go_at_call 54;refine(rQ _ Jb).mono ?_;rintro r w1 ⟨rfl,ac⟩;have ak:=Jg ac;have af:=ac.size;(try simp at af);have lu:W.heap.size<w1.heap.size:=Ua))
   refine Jo fun W0 ag=>?_;have eo:W0.ownsRow w0.heap.size 9 1 (.slice Av l.length cv) l.length (l.map .string):=by rw [ag];exact Jy (ae.alloc _) ac
   have iW:(Value.slice Av l.length cv).ownBlock=(Value.slice Av l.length cv).ownBlock\/∀b,(Value.slice Av l.length cv).ownBlock=some b->W.heap.size<b:= .inl rfl;have qj:W.grownBy W0 (Value.slice Av l.length cv).ownBlock:=by rw [ag];exact Jat (Jd (Jc (Below.refl _ _) _) ac)
   have ss:W0.cell? ⟨W.heap.size,3,none⟩=some (.slice Ae e.sub.length ce):=Uc;have bD:W.heap.size<W0.heap.size:=Lk;clear ag ac ak;exact Tu
  case false=>
   have fw:Yw l e.name=l ++ [e.name]:=by unfold Yw;rw [aL,if_neg Ul,if_neg (by simp [hh])]
   rw [fw] at bH cQ;rw [hh] at rQ;clear fw hh
   go_enter Tryz.func121,Tryz.ntmps121
   go_wp2_with (first|(go_at_call 54;refine(rQ _ Jb).mono ?_;rintro r w1 ⟨rfl,ac⟩;have ak:=Jg ac;have af:=ac.size;(try simp at af);have lu:W.heap.size<w1.heap.size:=Ua)|(at_builtin;go_loud (refine Z2 rfl (.tmp 16) (.tmp 19) 121 rfl w0.heap.size 9 _ 1 16 Tryz.underlying121 Zq rfl Ua (.slice Av l.length cv) l.length (l.map .string) w1.heap.size 1 1 [.string e.name] rfl (Js (Jy (ae.alloc _) ac)) rfl rfl (fun j u hj=>Udt) Uv Ua Ua Uj ?_;intro v2 w2 ao aG aI;obtain⟨A2,cv2,rfl,it,iu⟩:=Jv ao)))
   refine Jo fun W0 ag=>?_;have br:=aG.size;simp at br;have eo:W0.ownsRow w0.heap.size 9 1 (.slice A2 (l.length+1) cv2) (l ++ [e.name]).length ((l ++ [e.name]).map .string):=by rw [ag,List.map_append,List.length_append];exact ao
   have iW:(Value.slice A2 (l.length+1) cv2).ownBlock=(Value.slice Av l.length cv).ownBlock\/∀b,(Value.slice A2 (l.length+1) cv2).ownBlock=some b->W.heap.size<b:=by
    exact Ucy
   have qj:W.grownBy W0 (Value.slice Av l.length cv).ownBlock:=by rw [ag];exact Yz (Jat (Jc (Jd (Jc (Below.refl _ _) _) ac) _)) aG (.inl rfl)
   have ss:W0.cell? ⟨W.heap.size,3,none⟩=some (.slice Ae e.sub.length ce):=by
    rw [ag];refine HK.out (.slice Av l.length cv) _ _ (.inl rfl) aG Uj _ ?_;exact Uq
   have bD:W.heap.size<W0.heap.size:=Lk;clear ag ac ak aG aI ao
   go_loopw [0,5] (fun u0 i wr=>∃(k:Nat) (V1:Value) (l2:List ByteArray),k<=e.sub.length/\i = .int .i64 k/\u0=V1/\Ex.namedL l2 (e.sub.drop k)=e.named l/\wr.ownsRow w0.heap.size 9 1 V1 l2.length (l2.map .string)/\(V1.ownBlock=(Value.slice Av l.length cv).ownBlock\/∀b,V1.ownBlock=some b->W.heap.size<b)/\W.grownBy wr (Value.slice Av l.length cv).ownBlock/\wr.cell? ⟨W.heap.size,3,none⟩=some (.slice Ae e.sub.length ce)/\W.heap.size<wr.heap.size/\l2.length+Ex.sizeL (e.sub.drop k)<=1000000) (fun _ i _=>e.sub.length-(intOf i).toNat)
   case atStart=>exact⟨0,_,(l ++ [e.name]),Nat.zero_le _,rfl,rfl,D2,eo,iW,qj,ss,bD,Vm⟩
   case round=>
    obtain⟨k,V1,l2,hk,rfl,rfl,aa,ed,ch,cK,aN,vu,kn⟩:=hrel;obtain⟨Ak,cvk,rfl,cD,dz⟩:=Jv ed
    by_cases am:k<e.sub.length
    ·have hx:e.sub[k]?=some e.sub[k]:=List.getElem?_eq_getElem am;have aj:e.sub[k]∈e.sub:=List.getElem_mem am;have hd:e.sub.drop k=e.sub[k] :: e.sub.drop (k+1):=List.drop_eq_getElem_cons am;generalize e.sub[k]=x at hx aj hd;have aC:Below w0.heap.size w0 wr:=J2 dZ cK (fun b hb=>(kS.out b hb).1) Ua;obtain⟨b,off,A',cap',rfl,c0,c1,c2,c3,hs⟩:=he.get hx;have c0':=Ja aC c0;have c1':=Ja aC c1;have c2':=Ja aC c2;have c3':=Ja aC c3;rw [hd,Ex.namedL] at aa;rw [hd,Ex.sizeL] at kn;have jV:=Ex.named_len x l2;have az:=ih x aj A' cap' hs wr _ l2 aC ed Ua;unfold exV at az;have HR:=Lib.hid aa;have fO:=Lib.hid ch;have qk:=Lib.hid cK;clear aa hd hx c0 c1 c2 c3 ch cK
     go_wp2_with (first|(go_at_call 121;refine az.mono ?_;rintro r w3 ⟨⟨v3,rfl,aE,fv⟩,bJ⟩))
     go_roundw
     case rel=>
      have kI:=bJ.size;refine⟨k+1,_,x.named l2,Ua,Up,rfl,HR.out,aE,?_,?_,HK.out _ _ _ fO.out bJ vu _ aN,Ua,Ua⟩
      ·rcases fv with h3|h3
       ·rw [h3];exact fO.out
       ·exact .inr fun b hb=>by have:=h3 b hb;omega
      ·refine Yz qk.out bJ ?_
       rcases fO.out with h|h
       ·exact .inl h
       ·exact .inr fun b hb=>Df
     case measure=>simp [intOf];omega
    ·obtain rfl:k=e.sub.length:=Ua;rw [List.drop_length,Ex.namedL] at aa;subst aa;have qk:=Lib.hid cK;have fO:=Lib.hid ch;clear cK ch
     go_wp2_with fail
     go_ret;exact⟨⟨_,rfl,ed,fO.out.imp id fun h b hb=>Df⟩,qk.out⟩
theorem Jf2 (e:Ex):∀(A:Option Addr) (cap:Nat) (most:Int) (w:World),Jt w e A cap->-1000000<=most->most<=1000000->
  Calls Tryz.prog 16 #[exV e A cap,.int .i64 most] w fun r w'=>r = .returned (.int .i64 (e.count most))/\Below w.heap.size w w':=by
 induction e using Ex.ind with
 | h e ih=>
 intro A cap most w he hm cI;have hl:=he.len;unfold maxLen at hl;obtain⟨bI,aD⟩:=hl;unfold exV
 go_enter Tryz.func16,Tryz.ntmps16
 go_wp2_with fail
 refine Jo fun W0 ag=>?_;have ax:Below w.heap.size w W0:=Uo;have bD:w.heap.size<W0.heap.size:=La;have p3:W0.cell? ⟨w.heap.size,3,none⟩=some (.slice A e.sub.length cap):=Uc;clear ag;replace he:=he.later ax
 go_loopw [5,6] (fun m i wr=>∃(k:Nat) (m':Int),k<=e.sub.length/\i = .int .i64 k/\m = .int .i64 m'/\1<=m'/\m'<=max 1 most/\Ex.countL (e.sub.drop k) m' most=e.count most/\Below W0.heap.size W0 wr) (fun _ i _=>e.sub.length-(intOf i).toNat)
 case atStart=>exact⟨0,1,Nat.zero_le _,rfl,rfl,Ua,Ua,by simp [Ex.count_eq],Below.refl _ _⟩
 case round=>
  obtain⟨k,m',hk,rfl,rfl,h0,h1,aa,ab⟩:=hrel;have hc:=Jg ab;have bu:=ab.size
  by_cases am:k<e.sub.length
  ·obtain⟨x,hx,aj,hd⟩:=Kl am;obtain⟨b,off,A',cap',rfl,c0,c1,c2,c3,hs⟩:=(he.later ab).get hx;rw [hd,Ex.countL] at aa;have ct:=Ex.count_bd x (most-m');have ihx:=ih x aj
   by_cases qK:m'>=most
   ·exact Uca
   ·rw [if_neg qK] at aa;have HR:=Lib.hid aa;clear aa hd hx;have uM:m'<most:=Ua
    go_wp2_with (go_at_call 16;refine(ihx A' cap' (most-m') _ (hs.later Jb) Ua Ua).mono ?_;rintro r w1 ⟨rfl,ac⟩)
    exact Ucm
  ·exact Ubs
theorem Jn9 {a b:World} {B:Nat} (h:a.grownBy b none) (hB:B<=a.heap.size):Below B a b:=
 ⟨h.os,h.tape,h.output,h.size,fun k hk=>h.block k Ua Ul⟩
theorem Joq (e:Ex) (A:Option Addr) (cap:Nat) (w:World) (he:Jt w e A cap) (hz:e.size<=1000000) :
  Calls Tryz.prog 87 #[exV e A cap] w fun r w'=>(∃v,r = .returned v/\w'.ownsRow w.heap.size 9 1 v (Kx e).length ((Kx e).map .string))/\Below w.heap.size w w':=by
 have av:=fun W h=>Jf2 e A cap 121 W (he.later h) Ua Ua;have ct:=Ex.count_bd e 121;have nZ:=fun(W:World) (h:Below w.heap.size w W)=>Jtx W e A cap (he.later h) W (.slice none 0 0) [] (Below.refl _ _) (World.ownsRow_nil _ _ _ _) Mg;have hv:Kx e=if 120<e.count 121 then [] else e.named []:=rfl;unfold exV at *;generalize e.count 121=c at *
 by_cases hc:120<c
 ·rw [if_pos hc] at hv;have HV:=Lib.hid hv;clear hv
  go_enter Tryz.func87,Tryz.ntmps87
  go_wp2_with (first|(go_at_call 16;refine(av _ Jb).mono ?_;rintro r w1 ⟨rfl,ac⟩;have ⟨ak,af⟩:=aft ac;(try simp at af)))
  go_ret;exact⟨⟨_,rfl,by rw [HV.out];exact World.ownsRow_nil _ _ _ _⟩,Jb⟩
 ·rw [if_neg hc] at hv;have HV:=Lib.hid hv;clear hv
  go_enter Tryz.func87,Tryz.ntmps87
  go_wp2_with (first|(go_at_call 16;refine(av _ Jb).mono ?_;rintro r w1 ⟨rfl,ac⟩;have ⟨ak,af⟩:=aft ac;(try simp at af))|(go_at_call 121;refine(nZ _ Jb).mono ?_;rintro r w2 ⟨⟨v2,rfl,ao,_⟩,aG⟩))
  go_ret;exact⟨⟨_,rfl,by rw [HV.out];exact K8 ao Ua⟩,Jn (a:=w) (by exact Jb) (Jn9 aG (Nat.le_refl _)) Ua⟩
theorem Jru (e:Ex):∀(A:Option Addr) (cap:Nat) (most:Int) (w:World),Jt w e A cap->-1000000<=most->most<=1000000->
  Calls Tryz.prog 115 #[exV e A cap,.int .i64 most] w fun r w'=>r = .returned (.int .i64 (e.count most))/\Below w.heap.size w w':=by
 induction e using Ex.ind with
 | h e ih=>
 intro A cap most w he hm cI;have hl:=he.len;unfold maxLen at hl;obtain⟨bI,aD⟩:=hl;unfold exV
 go_enter Tryz.func115,Tryz.ntmps115
 go_wp2_with fail
 refine Jo fun W0 ag=>?_;have ax:Below w.heap.size w W0:=Uo;have bD:w.heap.size<W0.heap.size:=La;have p3:W0.cell? ⟨w.heap.size,3,none⟩=some (.slice A e.sub.length cap):=Uc;clear ag;replace he:=he.later ax
 go_loopw [5,6] (fun m i wr=>∃(k:Nat) (m':Int),k<=e.sub.length/\i = .int .i64 k/\m = .int .i64 m'/\1<=m'/\m'<=max 1 most/\Ex.countL (e.sub.drop k) m' most=e.count most/\Below W0.heap.size W0 wr) (fun _ i _=>e.sub.length-(intOf i).toNat)
 case atStart=>exact⟨0,1,Nat.zero_le _,rfl,rfl,Ua,Ua,by simp [Ex.count_eq],Below.refl _ _⟩
 case round=>
  obtain⟨k,m',hk,rfl,rfl,h0,h1,aa,ab⟩:=hrel;have hc:=Jg ab;have bu:=ab.size
  by_cases am:k<e.sub.length
  ·obtain⟨x,hx,aj,hd⟩:=Kl am;obtain⟨b,off,A',cap',rfl,c0,c1,c2,c3,hs⟩:=(he.later ab).get hx;rw [hd,Ex.countL] at aa;have ct:=Ex.count_bd x (most-m');have ihx:=ih x aj
   by_cases qK:m'>=most
   ·exact Uca
   ·rw [if_neg qK] at aa;have HR:=Lib.hid aa;clear aa hd hx;have uM:m'<most:=Ua
    go_wp2_with (go_at_call 115;refine(ihx A' cap' (most-m') _ (hs.later Jb) Ua Ua).mono ?_;rintro r w1 ⟨rfl,ac⟩)
    exact Ucm
  ·exact Ubs
theorem Jz.keep1 {P:Program} {k e:TypeId} {w w':World} {b n:Nat} {f:ByteArray->Option Int} (h:Jz P k e w b n f) (hb:w'.heap[b]?=w.heap[b]?):Jz P k e w' b n f:=by
 obtain⟨D,h1,h2,h3⟩:=h;obtain⟨es,clock,hh,F,hs,hD⟩:=h1;exact⟨D,⟨es,clock,hb.trans hh,F,hs,hD⟩,h2,h3⟩
structure Chg (bo B:Nat) (r:Option Nat) (W W':World):Prop where
 os:W'.os=W.os
 tape:W'.tape=W.tape
 output:W'.output=W.output
 size:W.heap.size<=W'.heap.size
 block:∀k,k<W.heap.size->k≠bo->k≠B->some k≠r->W'.heap[k]?=W.heap[k]?
theorem Chg.bel {bo B:Nat} {r:Option Nat} {W W':World} (h:Below W.heap.size W W'):Chg bo B r W W':=⟨h.os,h.tape,h.output,h.size,fun k hk _ _ _=>h.block k hk⟩
theorem Chg.grown {bo B:Nat} {r r':Option Nat} {W W':World} (h:W.grownBy W' r') (hr:r'=some bo\/r'=some B\/r'=r):Chg bo B r W W':=
 ⟨h.os,h.tape,h.output,h.size,fun k hk h1 h2 h3=>h.block k hk fun he=>by
  rcases hr with hr|hr|hr
  ·rw [hr] at he;injection he with he;exact h1 he
  ·rw [hr] at he;injection he with he;exact h2 he
  ·rw [hr] at he;exact h3 he⟩
theorem Chg.trans {bo B:Nat} {r0 r1:Option Nat} {a b c:World} (h1:Chg bo B r0 a b) (h2:Chg bo B r1 b c) (hr:r1=r0\/∀k,r1=some k->a.heap.size<=k):Chg bo B r0 a c:=
 ⟨h2.os.trans h1.os,h2.tape.trans h1.tape,h2.output.trans h1.output,Nat.le_trans h1.size h2.size,fun k hk cW hB aS=>(h2.block k (Nat.lt_of_lt_of_le hk h1.size) cW hB (by
  rcases hr with rfl|hr
  ·exact aS
  ·intro he;have:=hr k he.symm;omega)).trans (h1.block k hk cW hB aS)⟩
theorem Chg.setCell {bo B:Nat} {r:Option Nat} {W W':World} (h:Chg bo B r W W') (o:Nat) (u:Value):Chg bo B r W (W'.setCell ⟨bo,o,none⟩ u):=
 ⟨h.os,h.tape,h.output,by have:=h.size;simpa using this,fun k hk h1 h2 h3=>(heap_setCell_other W' ⟨bo,o,none⟩ k u h1).trans (h.block k hk h1 h2 h3)⟩
end Go.Proofs.YtknfcamdfdfoeaaGreatDoor
