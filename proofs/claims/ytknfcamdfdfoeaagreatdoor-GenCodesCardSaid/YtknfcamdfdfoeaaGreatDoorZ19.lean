/- Lemmas. -/
import Derived.Test.YtknfcamdfdfoeaaGreatDoorMac
import Derived.Test.YtknfcamdfdfoeaaGreatDoorZ18
import Derived.Test.YtknfcamdfdfoeaaGreatDoorZ02
import Derived.Test.YtknfcamdfdfoeaaGreatDoorZ04
import Derived.Deep.RegionLaw
import Derived.Test.YtknfcamdfdfoeaaGreatDoorZ05
import Derived.Test.YtknfcamdfdfoeaaGreatDoorZ08
import Derived.BigRegion
set_option linter.unusedVariables false
set_option linter.unusedSimpArgs false
set_option maxRecDepth 100000
set_option maxHeartbeats 64000000
namespace Go.Proofs.YtknfcamdfdfoeaaGreatDoor
open Go.RowKit
theorem Jgj {α:Type} {P:List α->Prop} (h0:P []) (h1:∀l x,P l->P (l ++ [x])):∀l,P l:=fun l=>by
 have:∀r:List α,P r.reverse:=fun r=>by
  induction r with
  | nil=>exact h0
  | cons x r ih=>rw [List.reverse_cons];exact h1 _ _ ih
 rw [<-List.reverse_reverse l];exact this _
def Jft (L:List Va) (s:ByteArray):Option Int:=L.zipIdx.foldl (fun c v=>if s.data=v.1.name.data then some (v.2:Int) else c) none
theorem Jeh (L:List Va) (v:Va) (s:ByteArray):Jft (L ++ [v]) s=if s.data=v.name.data then some (L.length:Int) else Jft L s:=by
 unfold Jft;rw [List.zipIdx_append,List.foldl_append];simp [List.zipIdx]
def Jcq (L:List Va) (s:ByteArray):Option (Int×ByteArray):=L.foldl (fun c v=>if s.data=v.name.data then some (v.ck,v.cn) else c) none
theorem Jce (L:List Va) (v:Va) (s:ByteArray):Jcq (L ++ [v]) s=if s.data=v.name.data then some (v.ck,v.cn) else Jcq L s:=by
 unfold Jcq;rw [List.foldl_append];exact Gd
def Jeg (l:List Ce) (d:Int×ByteArray):Option Int:=l.zipIdx.foldl (fun c x=>if x.1.name.toList.isEmpty=true/\d.1=x.1.ck/\d.2.data=x.1.cn.data then some (x.2:Int) else c) none
theorem Jef (l:List Ce) (x:Ce) (d:Int×ByteArray):Jeg (l ++ [x]) d=if x.name.toList.isEmpty=true/\d.1=x.ck/\d.2.data=x.cn.data then some (l.length:Int) else Jeg l d:=by
 unfold Jeg;rw [List.zipIdx_append,List.foldl_append];simp [List.zipIdx]
theorem Jlb (v:Va) (s:ByteArray):∀(L:List Va) (i:Int),Xf (L ++ [v]) s i=match Xf L s i with|some j=>some j|none=>if s.data=v.name.data then some (i+(L.length:Int)) else none
 | [],i=>by simp [Xf]
 | u :: L,i=>by
  simp only [List.cons_append,Xf]
  split
  ·exact Gd
  ·rw [Jlb v s L (i+1)]
   cases Xf L s (i+1)
   ·simp only [List.length_cons]
    split
    ·congr 1;omega
    ·exact Gd
   ·exact Gd
theorem Jlv:∀(L:List Va) (s:ByteArray) (i:Int),(∀u∈L,u.name≠s)->Xf L s i=none
 | [],s,i,_=>rfl
 | u :: L,s,i,h=>by
  have h1:=h u Ul;rw [Xf,if_neg (fun he=>h1 Ss)];exact Jlv L s (i+1) fun y hy=>h y F0
theorem Jrw (s:ByteArray):∀(L:List Va),(L.map (·.name)).Nodup->Jft L s=Qi L s:=by
 refine Jgj (fun _=>rfl) fun L v ih hn=>?_
 ·rw [List.map_append,List.nodup_append] at hn;rw [Jeh,ih hn.1];unfold Qi;rw [Jlb]
  by_cases hs:s.data=v.name.data
  ·have hsv:s=v.name:=by ext1;exact hs
   rw [Jlv L s 0 (fun u hu he=>hn.2.2 u.name (List.mem_map.2 ⟨u,hu,rfl⟩) v.name Ul (he.trans hsv))];simp [hs]
  ·rw [if_neg hs]
   cases Xf L s 0 <;> simp [hs]
theorem Jtm (s:ByteArray):∀(L:List Va),(∀u∈L,u.name≠s)->Jft L s=none:=by
 refine Jgj (fun _=>rfl) fun L v ih h=>?_;rw [Jeh,if_neg (fun he=>h v Ul Ss)];exact ih fun u hu=>h u Sw
theorem Jlc (s:ByteArray):∀(L:List Va),(∀u∈L,u.name≠s)->Jcq L s=none:=by
 refine Jgj (fun _=>rfl) fun L v ih h=>?_;rw [Jce,if_neg (fun he=>h v Ul Ss)];exact ih fun u hu=>h u Sw
theorem Jid {L:List Va} (hn:(L.map (·.name)).Nodup) {k:Nat} {x:Va} (hx:L[k]?=some x):∀u∈L.take k,u.name≠x.name:=by
 intro u hu he;obtain⟨j,hj⟩:=List.getElem?_of_mem hu
 have tB:j<k:=by
  have:=(List.getElem?_eq_some_iff.1 hj).1;rw [List.length_take] at this;omega
 rw [List.getElem?_take,if_pos tB] at hj;have e1:(L.map (·.name))[j]?=some x.name:=by rw [List.getElem?_map,hj];simp [he]
 have e2:(L.map (·.name))[k]?=some x.name:=by rw [List.getElem?_map,hx];rfl
 obtain⟨l1,g1⟩:=List.getElem?_eq_some_iff.1 e1;obtain⟨l2,g2⟩:=List.getElem?_eq_some_iff.1 e2;have:=(List.getElem_inj hn).1 (g1.trans g2.symm);exact Ua
theorem Jiv (s:ByteArray):∀L:List Va,(Jcq L s).getD (0,⟨#[]⟩)=L.foldl (fun c v=>if s.data=v.name.data then(v.ck,v.cn) else c) (0,⟨#[]⟩):=by
 refine Jgj rfl fun L v ih=>?_
 ·rw [Jce,List.foldl_append];simp only [List.foldl_cons,List.foldl_nil]
  split
  ·exact Gd
  ·exact ih
end Go.Proofs.YtknfcamdfdfoeaaGreatDoor
namespace Go.Proofs.YtknfcamdfdfoeaaGreatDoor
open Go.RowKit Go.Sort
def X9 (w:World) (l:List (Int×Int)) (r:Ending) (w':World):Prop:=(∃v,r = .returned v/\w'.ownsRow w.heap.size 59 2 v l.length (cdC l))/\Below w.heap.size w w'
theorem Jak (op n:Int) (w:World):Calls Tryz.prog 21 #[.int .i64 op,.int .i32 n] w fun r w'=>(r = .returned (.slice (some ⟨w.heap.size,0,none⟩) 1 1)/\w'.ownsRow w.heap.size 59 2 (.slice (some ⟨w.heap.size,0,none⟩) 1 1) 1 (cdC [(op,n)]))/\Below w.heap.size w w':=by
 go_enter Tryz.func21,Tryz.ntmps21
 go_wp2_with fail
 go_ret;refine⟨⟨rfl,?_⟩,Jb⟩;exact⟨rfl,.inr ⟨w.heap.size,1,#[.int .i64 op,.int .i32 n],rfl,Nat.le_refl _,heap_alloc_new w _,Nat.le_refl _,U2,rfl,rfl⟩⟩
theorem Jc0 (ps:List Jbv) (A:Option Addr) (cap:Nat) (w:World) (hp:Je1 w ps A) (hl:(Qu ps).length<=1000000) (h1:ps.length<=1000000) :
  Calls Tryz.prog 20 #[.slice A ps.length cap] w (X9 w (Qu ps)):=by
 unfold X9
 go_enter Tryz.func20,Tryz.ntmps20
 go_wp2_with fail
 go_loopw [3,8] (fun v i wr=>∃(k:Nat),k<=ps.length/\i = .int .i64 k/\wr.ownsRow w.heap.size 59 2 v (Qu (ps.take k)).length (cdC (Qu (ps.take k)))/\Below w.heap.size w wr) (fun _ i _=>ps.length-(intOf i).toNat)
 case atStart=>exact⟨0,Nat.zero_le _,rfl,World.ownsRow_nil _ _ _ _,Below.refl _ _⟩
 case round=>
  obtain⟨k,hk,rfl,ae,ab⟩:=hrel
  by_cases am:k<ps.length
  ·obtain⟨x,hx⟩:∃x,ps[k]?=some x:=⟨_,List.getElem?_eq_getElem am⟩;obtain⟨b,off,rfl,hc⟩:=(hp.later ab).1 Ua;have c0:=hc k x hx;have jT:=(hp.later ab).2 x (List.mem_of_getElem? hx);have aP:=Js3 hx;have gM:=@Jnv ps k;have tI:=@Jnv ps (k+1);rw [aP,List.length_append] at tI;obtain⟨xl,xA,xc⟩:=x;unfold Jbv.val at c0;dsimp only at *;have hz:=ab.size;have eZ:=Lib.hid aP;clear aP;clear hc hx
   go_wp2_with (first|(at_builtin;go_loud (refine K6 rfl (.tmp 12) (.tmp 13) 29 rfl w.heap.size 59 _ 2 16 Tryz.underlying29 Qz rfl Ua _ (Qu (ps.take k)).length (cdC (Qu (ps.take k))) xA xl.length xc (cdC xl) rfl ae rfl jT.2.2 (Q2 _) Ua Ua Ua ?_;intro v2 w2 ao aq)))
   go_roundw
   case rel=>exact⟨k+1,Ua,Up,by rw [eZ.out,Jbr,List.length_append];exact ao,ab.trans aq⟩
   case measure=>simp [intOf];omega
  ·obtain rfl:k=ps.length:=Ua;rw [List.take_length] at ae
   go_wp2_with fail
   go_ret;exact⟨⟨_,rfl,ae⟩,ab⟩
end Go.Proofs.YtknfcamdfdfoeaaGreatDoor
namespace Go.Proofs.YtknfcamdfdfoeaaGreatDoor
open Go.RowKit Go.Sort Go.Maps
theorem Jky (n:Nat) (h:n<=1000000):IntKind.i32.wrap (n:Int)=(n:Int):=Jbn Vh
theorem Jqp (n:Nat) (h:n<=1000000):IntKind.i32.wrap ((n:Int)+1)=(n:Int)+1:=Jbn Vh
theorem J3.one {w:World} {base g:Nat} {x:Int×Int} (h:w.ownsRow base 59 2 (.slice (some ⟨g,0,none⟩) 1 1) 1 (cdC [x])):J3 w [x] (some ⟨g,0,none⟩) 1:=by
 obtain⟨A,cap,hv,aY⟩:=J3.of_own (l:=[x]) h;injection hv with e1 e2 e3;subst e1 e3;exact aY
theorem X9.less {w w2:World} {l:List (Int×Int)} {r:Ending} {w':World} (h:X9 w2 l r w') (hb:Below w.heap.size w w2):X9 w l r w':=by
 obtain⟨⟨v,hr,ae⟩,aq⟩:=h;exact⟨⟨v,hr,K8 ae hb.size⟩,Jd hb aq⟩
theorem Jan {w:World} {ps:List Jbv} {c:Array Value} {t:TypeId} (hc:c=(ps.map Jbv.val).toArray) (hi:∀x∈ps,J3 w x.l x.A x.cap):Je1 (w.alloc (.cells c t)) ps (some ⟨w.heap.size,0,none⟩):=by
 refine⟨fun _=>⟨w.heap.size,0,rfl,fun k x hk=>?_⟩,fun x hx=>(hi x hx).later (Jc (Below.refl _ _) _)⟩;rw [Nat.zero_add,Kw,hc,List.getElem?_toArray,List.getElem?_map,hk];exact Gd
theorem Jg5 (v a b:List (Int×Int)) (A1:Option Addr) (c1:Nat) (A2:Option Addr) (c2:Nat) (A3:Option Addr) (c3:Nat) (w:World) (h1:J3 w v A1 c1) (h2:J3 w a A2 c2) (h3:J3 w b A3 c3) (hl:v.length+a.length+b.length<=900000) :
  Calls Tryz.prog 44 #[.slice A1 v.length c1,.slice A2 a.length c2,.slice A3 b.length c3] w (X9 w (Yv v a b)):=by
 have t1:=Jqp a.length Ua;have t2:=Jky b.length Ua;have l2:=h2.1;have l3:=h3.1;have m2:=h2.2.1;have m3:=h3.2.1;unfold maxLen at m2 m3
 have ay:=fun(g1 g2:Nat) (W:World) (hb:Below w.heap.size w W) (dN:J3 W [(11,(a.length:Int)+1)] (some ⟨g1,0,none⟩) 1) (dR:J3 W [(10,(b.length:Int))] (some ⟨g2,0,none⟩) 1) (t:TypeId)=>
  Jc0 [⟨v,A1,c1⟩,⟨[(11,(a.length:Int)+1)],some ⟨g1,0,none⟩,1⟩,⟨a,A2,c2⟩,⟨[(10,(b.length:Int))],some ⟨g2,0,none⟩,1⟩,⟨b,A3,c3⟩] (some ⟨W.heap.size,0,none⟩) 5
   (W.alloc (.cells #[.slice A1 v.length c1,.slice (some ⟨g1,0,none⟩) 1 1,.slice A2 a.length c2,.slice (some ⟨g2,0,none⟩) 1 1,.slice A3 b.length c3] t))
   (Jan rfl fun x hx=>by
    simp only [List.mem_cons,List.not_mem_nil,or_false] at hx
    rcases hx with rfl|rfl|rfl|rfl|rfl
    ·exact h1.later hb
    ·exact dN
    ·exact h2.later hb
    ·exact dR
    ·exact h3.later hb)
   Gj Ul
 have gM:∀g1 g2:Nat,Qu [⟨v,A1,c1⟩,⟨[(11,(a.length:Int)+1)],some ⟨g1,0,none⟩,1⟩,⟨a,A2,c2⟩,⟨[(10,(b.length:Int))],some ⟨g2,0,none⟩,1⟩,⟨b,A3,c3⟩]=Yv v a b:=fun g1 g2=>by simp [Qu,Yv]
 simp only [gM] at ay;have jZ:=Lib.hid ay;clear ay gM h1 h2 h3
 go_enter Tryz.func44,Tryz.ntmps44
 go_wp2_with (first
  | (go_at_call_of 21 (Value.int IntKind.i64 11);go_loud (refine(Jak _ _ _).mono ?_;rintro r w1 ⟨⟨rfl,ba⟩,ac⟩;have dN:=J3.one ba;have af:=ac.size;clear ba))
  | (go_at_call_of 21 (Value.int IntKind.i64 10);go_loud (refine(Jak _ _ _).mono ?_;rintro r w2 ⟨⟨rfl,ao⟩,aq⟩;have dR:=J3.one ao;have br:=aq.size;clear ao))
  | (go_at_call 20;go_loud (refine(jZ.out w.heap.size w1.heap.size w2 Jb (dN.later Jb) dR _).mono ?_;rintro r w4 ⟨⟨v4,rfl,cj⟩,ei⟩)))
 go_ret;exact⟨⟨_,rfl,K8 cj Uj⟩,Jb⟩
def Jci (w:World) (l:List (Int×Int)) (r:Ending) (w':World):Prop:=(∃A cap,r = .returned (.slice A l.length cap)/\J3 w' l A cap)/\Below w.heap.size w w'
theorem X9.at {w:World} {l:List (Int×Int)} {r:Ending} {w':World} (h:X9 w l r w'):Jci w l r w':=by
 obtain⟨⟨v,hr,ae⟩,hb⟩:=h;obtain⟨A,cap,rfl,aY⟩:=J3.of_own ae;exact⟨⟨A,cap,hr,aY⟩,hb⟩
theorem Jci.less {w w2:World} {l:List (Int×Int)} {r:Ending} {w':World} (h:Jci w2 l r w') (hb:Below w.heap.size w w2):Jci w l r w':=⟨h.1,Jd hb h.2⟩
structure Jb1 (W:World) (X Bs Bf:Nat) (sl:ByteArray->Int) (fl:Int×ByteArray->Int):Prop where
 c0:W.cell? ⟨X,0,none⟩=some (.map (some Bs))
 c2:W.cell? ⟨X,2,none⟩=some (.map (some Bf))
 slots:∃n f c,Q3 Tryz.prog 9 21 .i32 okS klS W Bs n f c/\∀s,okS s->(f s).getD 0=sl s
 flags:∃n f c,Q3 Tryz.prog 55 21 .i32 okC klC W Bf n f c/\∀s,okC s->(f s).getD 0=fl s
theorem Jb1.later {W W':World} {X Bs Bf:Nat} {sl:ByteArray->Int} {fl:Int×ByteArray->Int} (h:Jb1 W X Bs Bf sl fl) (hb:Below W.heap.size W W'):Jb1 W' X Bs Bf sl fl:=by
 obtain⟨c0,c2,⟨n,f,c,hm,hf⟩,⟨n',f',c',yp,hf'⟩⟩:=h;exact⟨Ja hb c0,Ja hb c2,⟨n,f,c,hm.bel hb,hf⟩,⟨n',f',c',yp.bel hb,hf'⟩⟩
theorem Jbp (w:World):(zeroValue 21).run Tryz.prog w = .ok (.int .i32 0) w:=Ug
theorem Kal (w:World) (k:Int) (cs:ByteArray):(w.alloc (.cells #[.int .i64 k,.string cs] 55)).drew.cell? ⟨w.heap.size,0,none⟩=some (.int .i64 k):=by
 exact Uq
theorem Jh7 (X Bs Bf:Nat) (sl:ByteArray->Int) (fl:Int×ByteArray->Int) (ck:Int) (cs:ByteArray) (l:List (Int×Int)) (A:Option Addr) (cap:Nat) (w:World) (hp:Jb1 w X Bs Bf sl fl) (hc:okC (ck,cs)) (hk:ck=0\/ck=1\/ck=2) (hl:J3 w l A cap) (ai:l.length<=900000) :
  Calls Tryz.prog 22 #[.pointer (some ⟨X,0,none⟩),.agg #[.int .i64 ck,.string cs],.slice A l.length cap] w (Jci w (Qk sl (ck,cs) l)):=by
 obtain⟨c0,c2,⟨n,f,c,hm,hf⟩,_⟩:=hp;have dj:okS cs:=hc.2;have eB:=hf cs dj;have hX:X<w.heap.size:=block_lt_of_cell c0;have t1:=Jky l.length Ua;have l2:=hl.1;have m2:=hl.2.1;unfold maxLen at m2;have HF:=Lib.hid eB;have HM:=Lib.hid hm
 have sD:=(fun(g1 g2:Nat) (W:World) (hb:Below w.heap.size w W) (dN:J3 W [(2,sl cs)] (some ⟨g1,0,none⟩) 1) (dR:J3 W [(11,(l.length:Int))] (some ⟨g2,0,none⟩) 1) (t:TypeId)=>
  Jc0 [⟨[(2,sl cs)],some ⟨g1,0,none⟩,1⟩,⟨[(11,(l.length:Int))],some ⟨g2,0,none⟩,1⟩,⟨l,A,cap⟩] (some ⟨W.heap.size,0,none⟩) 3
   (W.alloc (.cells #[.slice (some ⟨g1,0,none⟩) 1 1,.slice (some ⟨g2,0,none⟩) 1 1,.slice A l.length cap] t))
   (Jan rfl fun x hx=>by
    simp only [List.mem_cons,List.not_mem_nil,or_false] at hx
    rcases hx with rfl|rfl|rfl
    ·exact dN
    ·exact dR
    ·exact hl.later hb)
   Gj Ul)
 have sE:=(fun(g1 g2 g3:Nat) (W:World) (hb:Below w.heap.size w W) (dN:J3 W [(2,sl cs)] (some ⟨g1,0,none⟩) 1) (dR:J3 W [(11,(l.length:Int))] (some ⟨g2,0,none⟩) 1) (iI:J3 W [(8,2)] (some ⟨g3,0,none⟩) 1) (t:TypeId)=>
  Jc0 [⟨[(2,sl cs)],some ⟨g1,0,none⟩,1⟩,⟨[(8,2)],some ⟨g3,0,none⟩,1⟩,⟨[(11,(l.length:Int))],some ⟨g2,0,none⟩,1⟩,⟨l,A,cap⟩] (some ⟨W.heap.size,0,none⟩) 4
   (W.alloc (.cells #[.slice (some ⟨g1,0,none⟩) 1 1,.slice (some ⟨g3,0,none⟩) 1 1,.slice (some ⟨g2,0,none⟩) 1 1,.slice A l.length cap] t))
   (Jan rfl fun x hx=>by
    simp only [List.mem_cons,List.not_mem_nil,or_false] at hx
    rcases hx with rfl|rfl|rfl|rfl
    ·exact dN
    ·exact iI
    ·exact dR
    ·exact hl.later hb)
   Gj Ul)
 have rt:∀g1 g2:Nat,Qu [⟨[(2,sl cs)],some ⟨g1,0,none⟩,1⟩,⟨[(11,(l.length:Int))],some ⟨g2,0,none⟩,1⟩,⟨l,A,cap⟩]=Qk sl (1,cs) l:=fun _ _=>by simp [Qu,Qk]
 have yr:∀g1 g2 g3:Nat,Qu [⟨[(2,sl cs)],some ⟨g1,0,none⟩,1⟩,⟨[(8,2)],some ⟨g3,0,none⟩,1⟩,⟨[(11,(l.length:Int))],some ⟨g2,0,none⟩,1⟩,⟨l,A,cap⟩]=Qk sl (2,cs) l:=fun _ _ _=>by simp [Qu,Qk]
 simp only [rt] at sD;simp only [yr] at sE;have ru:Qk sl (0,cs) l=l:=by simp [Qk]
 have HU0:=Lib.hid ru;have HL:=Lib.hid hl;clear hm hf eB hl hc rt yr ru;have rv:=fun(k:Int)=>Jcb (w:=(w.alloc (.cells #[.int .i64 k,.string cs] 55)).drew) (Jc2 Tryz.underlying9) (x:= .string cs) Tryz.underlying68 Tryz.underlying21 (Jbp _) rfl (HM.out.bel Jb) dj HF.out;have hlk1:=rv 0;have hlk2:=rv 1;have hlk3:=rv 2;clear rv
 rcases hk with rfl|rfl|rfl
 all_goals
  go_enter Tryz.func22,Tryz.ntmps22
  go_wp2_with fail
  go_region_law (go_simp;go_wp2_with (first
     | (go_at_call_of 21 (Value.int IntKind.i64 2);go_loud (refine(Jak _ _ _).mono ?_;rintro r w1 ⟨⟨rfl,ba⟩,ac⟩;have dN:=J3.one ba;have af:=ac.size;(try simp at af);clear ba))
     | (go_at_call_of 21 (Value.int IntKind.i64 11);go_loud (refine(Jak _ _ _).mono ?_;rintro r w2 ⟨⟨rfl,ao⟩,aq⟩;have dR:=J3.one ao;have br:=aq.size;(try simp at br);clear ao))))
 all_goals
  have cT:Below w.heap.size w w1:=(Jh (Jc (Below.refl _ _) _)).trans (ac.mono Ul);have hB:Below w.heap.size w w2:=cT.trans (aq.mono cT.size);have q0:=Ja aq (Ja ac (Kal _ _ _));have uc:=dN.later aq;rw [show ∀k:Int,(w.alloc (.cells #[.int .i64 k,.string cs] 55)).drew.heap.size=w.heap.size+1 from fun _=>Ul] at uc;clear dN
 ·go_wp2_with fail
  go_ret;rw [HU0.out];exact⟨⟨_,_,rfl,HL.out.later hB⟩,hB⟩
 ·go_wp2_with fail
  go_ret;rw [HU0.out];exact⟨⟨_,_,rfl,HL.out.later hB⟩,hB⟩
 iterate 2
  ·go_wp2_with (go_at_call 20;go_loud (refine(sD _ _ w2 hB uc dR _).mono ?_;intro r w4 aZ;obtain⟨⟨A4,c4,rfl,gP⟩,ei⟩:=aZ.at.less (Jc hB _);clear aZ))
   go_ret;exact⟨⟨_,_,rfl,gP⟩,ei⟩
 iterate 2
  ·go_wp2_with (first
    | (go_at_call_of 21 (Value.int IntKind.i64 8);go_loud (refine(Jak _ _ _).mono ?_;rintro r w3 ⟨⟨rfl,aE⟩,aM⟩;have iI:=J3.one aE;have fe:=aM.size;have cZ:=hB.trans (aM.mono hB.size);clear aE))
    | (go_at_call 20;go_loud (refine(sE _ _ _ w3 cZ (uc.later aM) (dR.later aM) iI _).mono ?_;intro r w4 aZ;obtain⟨⟨A4,c4,rfl,gP⟩,ei⟩:=aZ.at.less (Jc cZ _);clear aZ)))
   go_ret;exact⟨⟨_,_,rfl,gP⟩,ei⟩
end Go.Proofs.YtknfcamdfdfoeaaGreatDoor
namespace Go.Proofs.YtknfcamdfdfoeaaGreatDoor
open Go.RowKit Go.Sort Go.Maps Go.ChangeMaps Go.WideMaps
def X7 (l:List Ce):List Value:=l.flatMap fun c=>[.string c.name,.int .i64 c.ck,.string c.cn,.int .i32 c.first]
theorem Jph:∀l:List Ce,(X7 l).length=l.length * 4
 | []=>rfl
 | x :: l=>by
  have:=Jph l;unfold X7 at this ⊢;exact Uc7
theorem Jdh:∀(l:List Ce) (k:Nat) (x:Ce),l[k]?=some x->(X7 l)[k * 4]?=some (.string x.name)/\(X7 l)[k * 4+1]?=some (.int .i64 x.ck)/\(X7 l)[k * 4+2]?=some (.string x.cn)/\(X7 l)[k * 4+3]?=some (.int .i32 x.first)
 | [],k,x,h=>Lt
 | y :: l,0,x,h=>by simp at h;subst h;exact⟨rfl,rfl,rfl,rfl⟩
 | y :: l,k+1,x,h=>by
  have aY:=Jdh l k x Ve;have e:X7 (y :: l) = [.string y.name,.int .i64 y.ck,.string y.cn,.int .i32 y.first] ++ X7 l:=rfl
  have e2:∀j,(X7 (y :: l))[(k+1) * 4+j]?=(X7 l)[k * 4+j]?:=fun j=>by
   rw [e,List.getElem?_append_right Uj]
   congr 1
   simp;omega
  exact⟨by have:=e2 0;simp only [Nat.add_zero] at this;rw [this];exact aY.1,by rw [e2 1];exact aY.2.1,by rw [e2 2];exact aY.2.2.1,by rw [e2 3];exact aY.2.2.2⟩
def Jbh (w:World) (l:List Ce) (A:Option Addr) (cap:Nat):Prop:=l.length<=cap/\cap<=maxLen/\X6 w A l.length 4 (X7 l)
theorem Jbh.later {w w':World} {l:List Ce} {A:Option Addr} {cap:Nat} (h:Jbh w l A cap) (hb:Below w.heap.size w w'):Jbh w' l A cap:=⟨h.1,h.2.1,Jds h.2.2 hb⟩
theorem Qa (W:World) (b i:Nat) (o:Obj) (h:i≠b):(setBlock W b o).heap[i]?=W.heap[i]?:=by
 unfold setBlock;simp [Array.getElem?_setIfInBounds,h.symm,h]
theorem Xc (W:World) (b:Nat) (o:Obj) (h:b<W.heap.size):(setBlock W b o).heap[b]?=some o:=by
 unfold setBlock;simp [Array.getElem?_setIfInBounds,h]
theorem Yo (W:World) (b:Nat) (o:Obj):(setBlock W b o).heap.size=W.heap.size:=D3
theorem Jd9 (W:World) (b i j:Nat) (o:Obj) (h:i≠b):(setBlock W b o).cell? ⟨i,j,none⟩=W.cell? ⟨i,j,none⟩:=World.cell?_of_block (Qa W b i o h)
theorem Jgd (W:World) (b:Nat) (o:Obj):W.grownBy (setBlock W b o) (some b):=⟨rfl,rfl,rfl,D3,fun i _ hi=>Qa W b i o (fun e=>hi (by rw [e]))⟩
theorem Jly {n:Int} (h:I32 n):(Lit.int .i32 n).wf=true:=by
 unfold I32 at h;simp [Lit.wf,IntKind.min,IntKind.max,IntKind.signed,IntKind.bits];omega
def okI (i:Int):Prop:=(Lit.int .i32 i).wf=true
end Go.Proofs.YtknfcamdfdfoeaaGreatDoor
