/- Lemmas. -/
import Derived.Test.YtknfcamdfdfoeaaGreatDoorMac
import Derived.Test.YtknfcamdfdfoeaaGreatDoorZ01
import Derived.Test.YtknfcamdfdfoeaaGreatDoorZ03
import Derived.Test.YtknfcamdfdfoeaaGreatDoorZ09
import Derived.Test.YtknfcamdfdfoeaaGreatDoorZ02
import Derived.Test.YtknfcamdfdfoeaaGreatDoorZ19
import Derived.Test.YtknfcamdfdfoeaaGreatDoorZ18
set_option linter.unusedVariables false
set_option linter.unusedSimpArgs false
set_option maxRecDepth 100000
set_option maxHeartbeats 64000000
namespace Go.Proofs.YtknfcamdfdfoeaaGreatDoor
open Go.RowKit Go.Sort
theorem Jpp (v:Va) (w:World):Calls Tryz.prog 85 #[vaV v] w fun r w'=>r = .returned (.bool (K9 v.ck v.cn 0 ⟨#[]⟩))/\Below w.heap.size w w':=by
 have fM:=Jbt;have dp:=fun w=>Zt v.ck v.cn 0 ⟨#[]⟩ w;unfold vaV
 cases hq:K9 v.ck v.cn 0 ⟨#[]⟩
 ·exact Ucx
 ·exact Ucx
theorem Js7 (e:Ex) (Ae:Option Addr) (ce:Nat) (ck:Int) (cn:ByteArray) (l:List Va) (A:Option Addr) (cap:Nat) (w:World) (hl:Ju w l A cap) :
  Calls Tryz.prog 140 #[exV e Ae ce,.agg #[.int .i64 ck,.string cn],.slice A l.length cap] w fun r w'=>r = .returned (.int .i64 (Jec l e.kind e.name (ck,cn)))/\Below w.heap.size w w':=by
 have ap:=fun W h=>Xa l A cap e.name W (hl.later h);have fM:=Jbt;have hv:Jec l e.kind e.name (ck,cn)=Jec l e.kind e.name (ck,cn):=rfl;rw (occs:= .pos [2]) [Jec] at hv;have cY:=hl.len;unfold maxLen at cY;obtain⟨fH,fI⟩:=cY;unfold exV
 cases aL:e.name.toList.isEmpty
 case true=>
  rw [aL,if_pos rfl] at hv;have HV:=Lib.hid hv;clear hv
  go_enter Tryz.func140,Tryz.ntmps140
  exact Uc9
 rw [aL,if_neg Ul] at hv
 rcases Y5 l e.name with ⟨cL,eB⟩|⟨k,v,cL,hx,eB⟩
 ·rw [eB] at hv;rw [cL] at ap;dsimp only at hv;clear cL eB;have HV:=Lib.hid hv;clear hv
  go_enter Tryz.func140,Tryz.ntmps140
  go_wp2_with (first|(go_at_call 49;refine(ap _ Jb).mono ?_;rintro r w1 ⟨rfl,ac⟩;have ⟨ak,af⟩:=aft ac;(try simp at af)))
  exact Udf
 rw [eB] at hv;rw [cL] at ap;dsimp only at hv;clear cL eB;have fR:k<l.length:=(List.getElem?_eq_some_iff.1 hx).1;have le:(k:Int)<(l.length:Int):=Ua;have tkk:¬((k:Int)<0):=Ua;obtain⟨b,off,rfl,aH,⟨d0,d1,d2,d3⟩⟩:=hl.get hx;have aK:=fun W=>Jpp v W;unfold vaV at aK;have jU:b<w.heap.size+1:=Ua;have bG:b<w.heap.size+1+1:=Ua;clear hx
 by_cases h3:e.kind=3
 ·have q3:(e.kind == 3)=true:=by rw [h3];rfl
  have n3:(e.kind != 3)=false:=by rw [h3];rfl
  have dp:=fun w=>Zt ck cn v.ck v.cn w;have ig:Jcp e.kind e.name v=(v.ck,v.cn):=by unfold Jcp;rw [if_pos h3]
  rw [ig] at hv;clear ig;dsimp only at hv
  cases hq:K9 ck cn v.ck v.cn
  ·rw [hq] at dp hv;rw [if_pos rfl] at hv;exact Uer
  ·rw [hq] at dp hv;rw [if_neg Ul,if_neg (by rintro⟨h,_⟩;exact h h3)] at hv;exact Uer
 have q3:(e.kind == 3)=false:=Sz;have n3:(e.kind != 3)=true:=Sz
 have tu:∀(wk:Int) (ws:ByteArray),Jcp e.kind e.name v=(wk,ws)->(∀b0:Bool,K9 v.ck v.cn 0 ⟨#[]⟩=b0->K9 ck cn wk ws=true->(b0=false->Jec l e.kind e.name (ck,cn)=21)/\(b0=true->Jec l e.kind e.name (ck,cn)=0))/\(K9 ck cn wk ws=false->Jec l e.kind e.name (ck,cn)=21):=by
  intro wk ws hw;rw [hw] at hv;dsimp only at hv;refine⟨fun b0 ax hq=>?_,fun hq=>?_⟩
  ·rw [hq,if_neg Ul,ax] at hv;refine⟨fun h=>?_,fun h=>?_⟩
   ·subst h;rw [hv,if_pos ⟨h3,rfl⟩]
   ·subst h;rw [hv,if_neg (by rintro⟨_,h⟩;simp at h)]
  ·rw [hq,if_pos rfl] at hv;exact hv
 clear hv;have HC:=Lib.hid tu;clear tu
 by_cases h8:e.kind=8
 ·have q8:(e.kind == 8)=true:=by rw [h8];rfl
  have ig:Jcp e.kind e.name v=(1,e.name):=by unfold Jcp;rw [if_neg h3,if_pos h8]
  clear h3 h8;have dp:=fun w=>Zt ck cn (1) (e.name) w
  cases hq:K9 ck cn (1) (e.name)
  ·exact Ueq
  ·exact Uek
 have q8:(e.kind == 8)=false:=Dp
 by_cases h9:e.kind=9
 ·have q9:(e.kind == 9)=true:=by rw [h9];rfl
  have ig:Jcp e.kind e.name v=(2,e.name):=by unfold Jcp;rw [if_neg h3,if_neg h8,if_pos h9]
  clear h3 h8 h9;have dp:=fun w=>Zt ck cn (2) (e.name) w
  cases hq:K9 ck cn (2) (e.name)
  ·exact Ueq
  ·exact Uek
 have q9:(e.kind == 9)=false:=by simpa using h9
 have ig:Jcp e.kind e.name v=(0,⟨#[]⟩):=by unfold Jcp;rw [if_neg h3,if_neg h8,if_neg h9]
 clear h3 h8 h9;have dp:=fun w=>Zt ck cn (0) (⟨#[]⟩) w
 cases hq:K9 ck cn (0) (⟨#[]⟩)
 ·exact Ueq
 ·exact Uek
theorem Jes:(Tryz.prog.info? 55).map (fun i=>(i.zero,i.size,i.bytes))=some (some (.agg #[.int .i64 0,.string ⟨#[]⟩]),2,24):=Ug
def Jco (k:Int) (s:ByteArray) (c:Int×ByteArray) (i:Nat):List Value:=[.int .i64 (K4 k s c i).1,.string (K4 k s c i).2]
def Yx (k:Int) (s:ByteArray) (c:Int×ByteArray) (n:Nat):List Value:=(List.range n).flatMap (Jco k s c)
theorem Jbs (k:Int) (s:ByteArray) (c:Int×ByteArray) (n:Nat):Yx k s c (n+1)=Yx k s c n ++ Jco k s c n:=by
 unfold Yx;rw [List.range_succ,List.flatMap_append];simp
theorem Jsi (k:Int) (s:ByteArray) (c:Int×ByteArray) (n:Nat):(Yx k s c n).length=n * 2:=by
 induction n with
 | zero=>rfl
 | succ n ih=>rw [Jbs,List.length_append,ih];simp [Jco];omega
theorem Jfy (k:Int) (s:ByteArray) (c:Int×ByteArray) {n i:Nat} (hi:i<n):(Yx k s c n)[i * 2]?=some (.int .i64 (K4 k s c i).1)/\(Yx k s c n)[i * 2+1]?=some (.string (K4 k s c i).2):=by
 induction n with
 | zero=>omega
 | succ n ih=>
  rw [Jbs];have hl:=Jsi k s c n
  rcases Nat.lt_or_ge i n with h|h
  ·rw [List.getElem?_append_left Ua,List.getElem?_append_left Ua];exact ih h
  ·obtain rfl:i=n:=Ua;rw [List.getElem?_append_right Ua,List.getElem?_append_right Ua,hl];simp [Jco]
theorem Jg4 (e:Ex) (Ae:Option Addr) (ce:Nat) (ck:Int) (cn:ByteArray) (w:World) (hn:e.sub.length<=1000000) :
  Calls Tryz.prog 56 #[exV e Ae ce,.agg #[.int .i64 ck,.string cn]] w fun r w'=>(∃v,r = .returned v/\w'.ownsRow w.heap.size 55 2 v e.sub.length (Yx e.kind e.name (ck,cn) e.sub.length))/\Below w.heap.size w w':=by
 unfold exV
 by_cases bM:e.kind=10
 ·have q8:(e.kind == 8)=false:=Sp;have q9:(e.kind == 9)=false:=Sp;have q10:(e.kind == 10)=true:=Sp;have hw:∀i:Nat,Jco e.kind e.name (ck,cn) i = [.int .i64 (1+(i:Int)),.string e.name]:=fun i=>by unfold Jco K4;rw [if_pos bM]
  clear bM;have HW:=Lib.hid hw;clear hw
  go_enter Tryz.func56,Tryz.ntmps56
  go_wp2_with fail
  refine Jo fun W0 ag=>?_;have ax:Below w.heap.size w W0:=Uo;have bD:w.heap.size<W0.heap.size:=Us;have p0:W0.cell? ⟨w.heap.size,0,none⟩=some (.int .i64 e.kind):=Uc;have p2:W0.cell? ⟨w.heap.size,2,none⟩=some (.string e.name):=Uc;have p3:W0.cell? ⟨w.heap.size,3,none⟩=some (.slice Ae e.sub.length ce):=Uc;have c0:W0.cell? ⟨w.heap.size+1,0,none⟩=some (.int .i64 ck):=Uc;have c1:W0.cell? ⟨w.heap.size+1,1,none⟩=some (.string cn):=Uc;have iq:w.heap.size+1<W0.heap.size:=Us;clear ag
  go_loopw [5,6] (fun v i wr=>∃(k:Nat),k<=e.sub.length/\i = .int .i64 k/\wr.ownsRow W0.heap.size 55 2 v k (Yx e.kind e.name (ck,cn) k)/\Below W0.heap.size W0 wr) (fun _ i _=>e.sub.length-(intOf i).toNat)
  case atStart=>exact⟨0,Nat.zero_le _,rfl,World.ownsRow_nil _ _ _ _,Below.refl _ _⟩
  case round=>
   obtain⟨k,hk,rfl,ae,ab⟩:=hrel;have hc:=Jg ab;have bu:=ab.size;have eV:w.heap.size<wr.heap.size:=Ua;have fF:w.heap.size+1<wr.heap.size:=Ua
   by_cases am:k<e.sub.length
   ·go_wp2_with (first|(at_builtin;(refine K2 rfl (.tmp 33) (.tmp 35) 122 rfl W0.heap.size 55 _ 2 24 Tryz.underlying122 Jes rfl Ua u5 k (Yx e.kind e.name (ck,cn) k) _ 1 [.int .i64 (1+(k:Int)),.string e.name] rfl Udp rfl rfl (fun j u hj=>Udt) Uv Ua Ua U7 ?_;intro v2 w2 ao aq;have br:=aq.size;(try simp at br))))
    exact Ua8
   ·obtain rfl:k=e.sub.length:=Ua
    go_wp2_with fail
    go_ret;exact⟨⟨_,rfl,K8 ae Ua⟩,Jb⟩
 have q10:(e.kind == 10)=false:=Fb
 by_cases h8:e.kind=8
 ·have q8:(e.kind == 8)=true:=by rw [h8];rfl
  have hw:∀i:Nat,Jco e.kind e.name (ck,cn) i = [.int .i64 0,.string ⟨#[]⟩]:=fun i=>by unfold Jco K4;rw [if_neg bM,if_pos (.inl h8)]
  clear bM h8;exact Uej
 have q8:(e.kind == 8)=false:=Dp
 by_cases h9:e.kind=9
 ·have q9:(e.kind == 9)=true:=by rw [h9];rfl
  have hw:∀i:Nat,Jco e.kind e.name (ck,cn) i = [.int .i64 0,.string ⟨#[]⟩]:=fun i=>by unfold Jco K4;rw [if_neg bM,if_pos (.inr h9)]
  clear bM h8 h9;exact Uej
 have q9:(e.kind == 9)=false:=by simpa using h9
 have hw:∀i:Nat,Jco e.kind e.name (ck,cn) i = [.int .i64 ck,.string cn]:=fun i=>by unfold Jco K4;rw [if_neg bM,if_neg Ua]
 clear bM h8 h9;have HW:=Lib.hid hw;clear hw
 go_enter Tryz.func56,Tryz.ntmps56
 go_wp2_with fail
 refine Jo fun W0 ag=>?_;have ax:Below w.heap.size w W0:=Uo;have bD:w.heap.size<W0.heap.size:=Us;have p0:W0.cell? ⟨w.heap.size,0,none⟩=some (.int .i64 e.kind):=Uc;have p2:W0.cell? ⟨w.heap.size,2,none⟩=some (.string e.name):=Uc;have p3:W0.cell? ⟨w.heap.size,3,none⟩=some (.slice Ae e.sub.length ce):=Uc;have c0:W0.cell? ⟨w.heap.size+1,0,none⟩=some (.int .i64 ck):=Uc;have c1:W0.cell? ⟨w.heap.size+1,1,none⟩=some (.string cn):=Uc;have iq:w.heap.size+1<W0.heap.size:=Us;clear ag
 go_loopw [5,6] (fun v i wr=>∃(k:Nat),k<=e.sub.length/\i = .int .i64 k/\wr.ownsRow W0.heap.size 55 2 v k (Yx e.kind e.name (ck,cn) k)/\Below W0.heap.size W0 wr) (fun _ i _=>e.sub.length-(intOf i).toNat)
 case atStart=>exact⟨0,Nat.zero_le _,rfl,World.ownsRow_nil _ _ _ _,Below.refl _ _⟩
 case round=>
  obtain⟨k,hk,rfl,ae,ab⟩:=hrel;have hc:=Jg ab;have bu:=ab.size;have eV:w.heap.size<wr.heap.size:=Ua;have fF:w.heap.size+1<wr.heap.size:=Ua
  by_cases am:k<e.sub.length
  ·go_wp2_with (first|(at_builtin;(refine K2 rfl (.tmp 33) (.tmp 35) 122 rfl W0.heap.size 55 _ 2 24 Tryz.underlying122 Jes rfl Ua u5 k (Yx e.kind e.name (ck,cn) k) _ 1 [.int .i64 ck,.string cn] rfl Udp rfl rfl (fun j u hj=>Udt) Uv Ua Ua U7 ?_;intro v2 w2 ao aq;have br:=aq.size;(try simp at br))))
   exact Ua8
  ·obtain rfl:k=e.sub.length:=Ua
   go_wp2_with fail
   go_ret;exact⟨⟨_,rfl,K8 ae Ua⟩,Jb⟩
theorem Xo (op n:Int) (hn:I32 n) (w:World):Calls Tryz.prog 27 #[.int .i64 op,.int .i64 n] w fun r w'=>r = .returned (.agg #[.int .i64 op,.int .i32 n])/\Below w.heap.size w w':=by
 have hwr:IntKind.i32.wrap n=n:=Jbn hn;clear hn
 go_enter Tryz.func27,Tryz.ntmps27
 go_wp2_with fail
 refine bodyPost_ret (v:= .agg #[.int .i64 op,.int .i32 n]) (by simp [results,Tryz.results27,go_sem, *]) rfl ⟨rfl,?_⟩;exact Km
theorem Jd3 {L:List Va} (h:L.length<=1000000) (s:ByteArray):I32 (Jp L s):=by
 unfold I32
 rcases Y5 L s with ⟨h1,_⟩|⟨k,v,h1,h2,_⟩
 ·exact Ua
 ·have:=(List.getElem?_eq_some_iff.1 h2).1;exact Ua
theorem Jdt (L:List Va) (Av:Option Addr) (cv:Nat) (C:Value) (s:ByteArray) (w:World) (hl:Ju w L Av cv) :
  Calls Tryz.prog 28 #[.agg #[.slice Av L.length cv,C],.string s] w fun r w'=>r = .returned (.int .i64 (Jp L s))/\Below w.heap.size w w':=by
 have ap:=fun W h=>Xa L Av cv s W (hl.later h)
 go_enter Tryz.func28,Tryz.ntmps28
 go_wp2_with (first|(go_at_call 49;go_loud (refine(ap _ Jb).mono ?_;rintro r w1 ⟨rfl,ac⟩)))
 go_ret;exact⟨rfl,Jb⟩
theorem Jtu (V:Value) (l:List Ce) (A:Option Addr) (cap:Nat) (ck:Int) (cs:ByteArray) (w:World) (hl:Jbh w l A cap) (hn:l.length<=1000000) :
  Calls Tryz.prog 58 #[.agg #[V,.slice A l.length cap],.agg #[.int .i64 ck,.string cs]] w fun r w'=>r = .returned (.int .i64 (Kg l (ck,cs)))/\Below w.heap.size w w':=by
 have bI:=hl.1;have aD:=hl.2.1;unfold maxLen at aD;have fM:=Jbt
 go_enter Tryz.func58,Tryz.ntmps58
 go_wp2_with fail
 refine Jo fun W0 ag=>?_;have ax:Below w.heap.size w W0:=Uo;have bD:w.heap.size+1<W0.heap.size:=La;have rx:w.heap.size<W0.heap.size:=Ua;have m1:W0.cell? ⟨w.heap.size,1,none⟩=some (.slice A l.length cap):=Uc;have p0:W0.cell? ⟨w.heap.size+1,0,none⟩=some (.int .i64 ck):=Uc;have p1:W0.cell? ⟨w.heap.size+1,1,none⟩=some (.string cs):=Uc;clear ag
 go_loopw [5] (fun i wr=>∃(k:Nat),k<=l.length/\i = .int .i64 k/\Hid (Jav k (l.drop k) (ck,cs)=Kg l (ck,cs))/\Below W0.heap.size W0 wr) (fun i _=>l.length-(intOf i).toNat)
 case atStart=>exact⟨0,Nat.zero_le _,rfl,Lib.hid (by rw [List.drop_zero];rfl),Below.refl _ _⟩
 case round=>
  obtain⟨k,hk,rfl,aa,ab⟩:=hrel;have hc:=Jg ab;have bu:=ab.size;have lu:w.heap.size<wr.heap.size:=Ua;have ud:w.heap.size+1<wr.heap.size:=Ua
  by_cases am:k<l.length
  ·have hx:l[k]?=some l[k]:=List.getElem?_eq_getElem am;have hd:l.drop k=l[k] :: l.drop (k+1):=List.drop_eq_getElem_cons am;generalize l[k]=x at hx hd;obtain⟨b,off,rfl,cB⟩:=((hl.later ax).later ab).2.2.2 Ua;have aY:=Jdh l k x hx;have d0:wr.cell? ⟨b,off+k * 4,none⟩=some (.string x.name):=cB _ _ aY.1;have d1:wr.cell? ⟨b,off+k * 4+1,none⟩=some (.int .i64 x.ck):=cB _ _ aY.2.1;have d2:wr.cell? ⟨b,off+k * 4+2,none⟩=some (.string x.cn):=cB _ _ aY.2.2.1;have hr:=aa.out;rw [hd,Jav] at hr;dsimp only at hr;have dp:=fun w=>Zt x.ck x.cn ck cs w;have aH:b<wr.heap.size:=block_lt_of_cell d0;clear cB aY hx hd aa
   cases aS:x.name.toList.isEmpty
   ·rw [aS,if_neg Ul] at hr;have HR:=Lib.hid hr;clear hr
    go_wp2_with fail
    go_quiet (fail)
    go_wp2_with fail
    exact Uee
   ·cases et:K9 x.ck x.cn ck cs
    ·rw [et] at dp;rw [et,if_neg Ul] at hr;exact Ubq
    ·rw [et] at dp;rw [aS,et,if_pos ⟨rfl,rfl⟩] at hr;have HR:=Lib.hid hr;clear hr et
     go_wp2_with fail
     go_quiet (fail)
     go_wp2_with fail
     go_ret;exact⟨Jm HR.out,Jb⟩
  ·obtain rfl:k=l.length:=Ua;have hr:=aa.out;rw [List.drop_length,Jav] at hr;have HR:=Lib.hid hr;clear hr aa;exact Uda
def Jf1 (w:World) (g:Option Nat) (P:World->Prop):Prop:=∀W,w.grownBy W g->P W
theorem Jf4 (B:Nat) (v:Value) (l a b:List (Int×Int)) (A2:Option Addr) (c2:Nat) (A3:Option Addr) (c3:Nat) (w:World) (hB:B<=w.heap.size) (h1:w.ownsRow B 59 2 v l.length (cdC l)) (h2:Jf1 w v.ownBlock fun W=>J3 W a A2 c2) (h3:Jf1 w v.ownBlock fun W=>J3 W b A3 c3) (hl:l.length+a.length+b.length<=900000) :
  Calls Tryz.prog 57 #[v,.slice A2 a.length c2,.slice A3 b.length c3] w (Jcc B w v (Yv l a b)):=by
 have n1:I32 ((a.length:Int)+1):=Vh;have n2:I32 (b.length:Int):=Vh;have l2:=(h2 w (Zj _ _)).1;have l3:=(h3 w (Zj _ _)).1;have m2:=(h2 w (Zj _ _)).2.1;have m3:=(h3 w (Zj _ _)).2.1;unfold maxLen at m2 m3;have S0:=Lib.hid (Zo.start h1);have H2:=Lib.hid h2;have H3:=Lib.hid h3;clear h1 h2 h3;unfold Jcc
 go_enter Tryz.func57,Tryz.ntmps57
 go_wp2_with (first
  | (go_at_call_of 27 (Value.int IntKind.i64 11);go_loud (refine(Xo _ _ n1 _).mono ?_;rintro r w1 ⟨rfl,ac⟩;have S1:=Lib.hid (S0.out.bel ac)))
  | (go_at_call_of 27 (Value.int IntKind.i64 10);go_loud (refine(Xo _ _ n2 _).mono ?_;rintro r w4 ⟨rfl,ei⟩;have S4:=Lib.hid (S3.out.bel ei)))
  | (at_builtin;refine Qv rfl (.tmp 7) (.tmp 12) 29 rfl B 59 _ 2 16 Tryz.underlying29 Qz rfl Ua v l.length (cdC l) _ 1 1 (cdC [(11,(a.length:Int)+1)]) rfl (Js S1.out.own) rfl (Qr rfl rfl) (Q2 _) Ua Ua Dy ?_;intro v2 w2 ao aG aI;have S2:=Lib.hid ((S1.out.bel (Jc (Below.refl _ _) _)).app ao aG aI))
  | (at_builtin;refine Qv rfl (.tmp 14) (.tmp 15) 29 rfl B 59 _ 2 16 Tryz.underlying29 Qz rfl Ua v2 _ _ A2 a.length c2 (cdC a) rfl S2.out.own rfl (H2.out _ S2.out.grow).2.2 (Q2 _) Uj Ua (S2.out.base hB) ?_;intro v3 w3 aE bJ iM;have S3:=Lib.hid (S2.out.app aE bJ iM))
  | (at_builtin;refine Qv rfl (.tmp 17) (.tmp 21) 29 rfl B 59 _ 2 16 Tryz.underlying29 Qz rfl Ua v3 _ _ _ 1 1 (cdC [(10,(b.length:Int))]) rfl (Js S4.out.own) rfl (Qr rfl rfl) (Q2 _) Uj Ua Fx ?_;intro v5 w5 bX eT jr;have S5:=Lib.hid ((S4.out.bel (Jc (Below.refl _ _) _)).app bX eT jr))
  | (at_builtin;refine Qv rfl (.tmp 23) (.tmp 24) 29 rfl B 59 _ 2 16 Tryz.underlying29 Qz rfl Ua v5 _ _ A3 b.length c3 (cdC b) rfl S5.out.own rfl (H3.out _ S5.out.grow).2.2 (Q2 _) Uj Ua (S5.out.base hB) ?_;intro v6 w6 fi ue yt;have S6:=Lib.hid (S5.out.app fi ue yt)))
 go_ret;exact⟨_,rfl,S6.out⟩
theorem Jlp (B:Nat) (v:Value) (L:List Va) (C:Value) (Av:Option Addr) (cv:Nat) (l x:List (Int×Int)) (A2:Option Addr) (c2:Nat) (ck:Int) (cs:ByteArray) (w:World) (hB:B<=w.heap.size) (h1:w.ownsRow B 59 2 v l.length (cdC l)) (h2:Jf1 w v.ownBlock fun W=>J3 W x A2 c2) (h3:Jf1 w v.ownBlock fun W=>Ju W L Av cv) (hL:L.length<=1000000) (hk:ck=0\/ck=1\/ck=2) (hl:l.length+x.length<=900000) :
  Calls Tryz.prog 31 #[.agg #[.slice Av L.length cv,C],v,.agg #[.int .i64 ck,.string cs],.slice A2 x.length c2] w (Jcc B w v (l ++ Qk (Jp L) (ck,cs) x)):=by
 have n1:I32 (x.length:Int):=Vh;have n2:=Jd3 hL cs;have n3:I32 2:=Vh;have l2:=(h2 w (Zj _ _)).1;have m2:=(h2 w (Zj _ _)).2.1;unfold maxLen at m2;have ea:=fun W h=>Jdt L Av cv C cs W (h3 W h);have S0:=Lib.hid (Zo.start h1);have H2:=Lib.hid h2;have ru:Qk (Jp L) (0,cs) x=x:=by simp [Qk]
 have hu1:Qk (Jp L) (1,cs) x = [(2,Jp L cs)] ++ [(11,(x.length:Int))] ++ x:=by simp [Qk]
 have hu2:Qk (Jp L) (2,cs) x = [(2,Jp L cs)] ++ [(8,2)] ++ [(11,(x.length:Int))] ++ x:=by simp [Qk]
 have HU0:=Lib.hid ru;have HU1:=Lib.hid hu1;have HU2:=Lib.hid hu2;clear h1 h2 h3 ru hu1 hu2;unfold Jcc
 rcases hk with rfl|rfl|rfl
 ·go_enter Tryz.func31,Tryz.ntmps31
  go_wp2_with (first
   | (at_builtin;refine Qv rfl (.tmp 33) (.tmp 34) 29 rfl B 59 _ 2 16 Tryz.underlying29 Qz rfl Ua v l.length (cdC l) A2 x.length c2 (cdC x) rfl (Js (Js S0.out.own)) rfl (H2.out _ (K0 (Jc (Jc (Below.refl _ _) _) _))).2.2 (Q2 _) Ua Ua Uj ?_;intro v2 w2 ao aG aI;have S2:=Lib.hid ((S0.out.bel (Jc (Jc (Below.refl _ _) _) _)).app ao aG aI)))
  go_ret;exact⟨_,rfl,by rw [HU0.out];exact S2.out⟩
 ·generalize Jp L cs=f at *
  go_enter Tryz.func31,Tryz.ntmps31
  go_wp2_with (first
    | (at_builtin;refine Qv rfl (.tmp 33) (.tmp 34) 29 rfl B 59 _ 2 16 Tryz.underlying29 Qz rfl Ua v5 _ _ A2 x.length c2 (cdC x) rfl S5.out.own rfl (H2.out _ S5.out.grow).2.2 (Q2 _) Uj Ua (S5.out.base hB) ?_;intro v6 w6 fi ue yt;have S6:=Lib.hid (S5.out.app fi ue yt))
    | (at_builtin;(first|refine Qv rfl (.tmp 27) (.tmp 31) 29 rfl B 59 _ 2 16 Tryz.underlying29 Qz rfl Ua v8 _ _ _ 1 1 (cdC [(11,(x.length:Int))]) rfl (Js S4.out.own) rfl (Qr rfl rfl) (Q2 _) Uj Ua Fx ?_|refine Qv rfl (.tmp 27) (.tmp 31) 29 rfl B 59 _ 2 16 Tryz.underlying29 Qz rfl Ua v2 _ _ _ 1 1 (cdC [(11,(x.length:Int))]) rfl (Js S4.out.own) rfl (Qr rfl rfl) (Q2 _) Uj Ua Fx ?_);intro v5 w5 bX eT jr;have S5:=Lib.hid ((S4.out.bel (Jc (Below.refl _ _) _)).app bX eT jr))
    | (go_at_call_of 27 (Value.int IntKind.i64 11);go_loud (refine(Xo _ _ n1 _).mono ?_;rintro r w4 ⟨rfl,ei⟩;first|have S4:=Lib.hid (S8.out.bel ei)|have S4:=Lib.hid (S2.out.bel ei)))
    | (at_builtin;refine Qv rfl (.tmp 23) (.tmp 25) 29 rfl B 59 _ 2 16 Tryz.underlying29 Qz rfl Ua v2 _ _ _ 1 1 (cdC [(8,2)]) rfl (Js S7.out.own) rfl (Qr rfl rfl) (Q2 _) Uj Ua (by have:=S7.out.base hB;simp;omega) ?_;intro v8 w8 pq hg8 hv8;have S8:=Lib.hid ((S7.out.bel (Jc (Below.refl _ _) _)).app pq hg8 hv8))
    | (go_at_call_of 27 (Value.int IntKind.i64 8);go_loud (refine(Xo _ _ n3 _).mono ?_;rintro r w7 ⟨rfl,hb7⟩;have S7:=Lib.hid (S2.out.bel hb7)))
    | (at_builtin;go_loud (refine Qv rfl (.tmp 12) (.tmp 18) 29 rfl B 59 _ 2 16 Tryz.underlying29 Qz rfl Ua v l.length (cdC l) _ 1 1 (cdC [(2,f)]) rfl (Js S1.out.own) rfl (Qr rfl rfl) (Q2 _) Ua Ua Dy ?_;intro v2 w2 ao aG aI;have S2:=Lib.hid ((S1.out.bel (Jc (Below.refl _ _) _)).app ao aG aI);have q0:w2.cell? ⟨w.heap.size+1,0,none⟩=some (.int .i64 1):=Jr (aG.block (w.heap.size+1) Uj (fun he=>by have:=(S0.out.own.lt _ he.symm).2;omega)) (J4 q01)))
    | (go_at_call_of 27 (Value.int IntKind.i64 2);go_loud (refine(Xo _ _ n2 _).mono ?_;rintro r w1 ⟨rfl,ac⟩;have S1:=Lib.hid (S0.out.bel (Jd aC ac));have q01:=Ja ac q00;have ak:=Jg ac;have af:=ac.size))
    | (go_at_call 28;go_loud (refine(ea _ (K0 Jb)).mono ?_;rintro r wa ⟨rfl,aA⟩;have aW:=Jg aA;have cN:w.heap.size+2<=wa.heap.size:=Ut;have dG:w.heap.size+1<wa.heap.size:=Ua;have hyaa:w.heap.size<wa.heap.size:=Ua;have aC:Below w.heap.size w wa:=Jb;have q00:wa.cell? ⟨w.heap.size+1,0,none⟩=some (.int .i64 1):=Udi)))
  go_ret;exact⟨_,rfl,by rw [HU1.out,<-List.append_assoc,<-List.append_assoc];exact S6.out⟩
 ·generalize Jp L cs=f at *
  go_enter Tryz.func31,Tryz.ntmps31
  go_wp2_with (first
    | (at_builtin;refine Qv rfl (.tmp 33) (.tmp 34) 29 rfl B 59 _ 2 16 Tryz.underlying29 Qz rfl Ua v5 _ _ A2 x.length c2 (cdC x) rfl S5.out.own rfl (H2.out _ S5.out.grow).2.2 (Q2 _) Uj Ua (S5.out.base hB) ?_;intro v6 w6 fi ue yt;have S6:=Lib.hid (S5.out.app fi ue yt))
    | (at_builtin;(first|refine Qv rfl (.tmp 27) (.tmp 31) 29 rfl B 59 _ 2 16 Tryz.underlying29 Qz rfl Ua v8 _ _ _ 1 1 (cdC [(11,(x.length:Int))]) rfl (Js S4.out.own) rfl (Qr rfl rfl) (Q2 _) Uj Ua Fx ?_|refine Qv rfl (.tmp 27) (.tmp 31) 29 rfl B 59 _ 2 16 Tryz.underlying29 Qz rfl Ua v2 _ _ _ 1 1 (cdC [(11,(x.length:Int))]) rfl (Js S4.out.own) rfl (Qr rfl rfl) (Q2 _) Uj Ua Fx ?_);intro v5 w5 bX eT jr;have S5:=Lib.hid ((S4.out.bel (Jc (Below.refl _ _) _)).app bX eT jr))
    | (go_at_call_of 27 (Value.int IntKind.i64 11);go_loud (refine(Xo _ _ n1 _).mono ?_;rintro r w4 ⟨rfl,ei⟩;first|have S4:=Lib.hid (S8.out.bel ei)|have S4:=Lib.hid (S2.out.bel ei)))
    | (at_builtin;refine Qv rfl (.tmp 23) (.tmp 25) 29 rfl B 59 _ 2 16 Tryz.underlying29 Qz rfl Ua v2 _ _ _ 1 1 (cdC [(8,2)]) rfl (Js S7.out.own) rfl (Qr rfl rfl) (Q2 _) Uj Ua (by have:=S7.out.base hB;simp;omega) ?_;intro v8 w8 pq hg8 hv8;have S8:=Lib.hid ((S7.out.bel (Jc (Below.refl _ _) _)).app pq hg8 hv8))
    | (go_at_call_of 27 (Value.int IntKind.i64 8);go_loud (refine(Xo _ _ n3 _).mono ?_;rintro r w7 ⟨rfl,hb7⟩;have S7:=Lib.hid (S2.out.bel hb7)))
    | (at_builtin;go_loud (refine Qv rfl (.tmp 12) (.tmp 18) 29 rfl B 59 _ 2 16 Tryz.underlying29 Qz rfl Ua v l.length (cdC l) _ 1 1 (cdC [(2,f)]) rfl (Js S1.out.own) rfl (Qr rfl rfl) (Q2 _) Ua Ua Dy ?_;intro v2 w2 ao aG aI;have S2:=Lib.hid ((S1.out.bel (Jc (Below.refl _ _) _)).app ao aG aI);have q0:w2.cell? ⟨w.heap.size+1,0,none⟩=some (.int .i64 2):=Jr (aG.block (w.heap.size+1) Uj (fun he=>by have:=(S0.out.own.lt _ he.symm).2;omega)) (J4 q01)))
    | (go_at_call_of 27 (Value.int IntKind.i64 2);go_loud (refine(Xo _ _ n2 _).mono ?_;rintro r w1 ⟨rfl,ac⟩;have S1:=Lib.hid (S0.out.bel (Jd aC ac));have q01:=Ja ac q00;have ak:=Jg ac;have af:=ac.size))
    | (go_at_call 28;go_loud (refine(ea _ (K0 Jb)).mono ?_;rintro r wa ⟨rfl,aA⟩;have aW:=Jg aA;have cN:w.heap.size+2<=wa.heap.size:=Ut;have dG:w.heap.size+1<wa.heap.size:=Ua;have hyaa:w.heap.size<wa.heap.size:=Ua;have aC:Below w.heap.size w wa:=Jb;have q00:wa.cell? ⟨w.heap.size+1,0,none⟩=some (.int .i64 2):=Udi)))
  go_ret;exact⟨_,rfl,by rw [HU2.out,<-List.append_assoc,<-List.append_assoc,<-List.append_assoc];exact S6.out⟩
end Go.Proofs.YtknfcamdfdfoeaaGreatDoor
namespace Go.Proofs.YtknfcamdfdfoeaaGreatDoor
open Go.RowKit
structure Fr where
 s:Int
 o:Int
 n:Int
 i:Int
 u:Int
def inB (n m:Int):Bool:=decide (0<=n) && decide (n<=m)
def Fr.good (f:Fr):Bool:=inB f.s 24 && inB f.o 16 && inB f.n 16 && inB f.i 8 && inB f.u 8
def Qp (op:Int):Int:=if op=1 then 4 else if op=10\/op=11 then 2 else if 1<op/\op<10 then 1 else 0
def Qj (i:Int×Int):Int:=
 if Qp i.1=0 then 9
 else if Qp i.1=4 then 0
 else if i.1=8/\(i.2<1\/2<i.2) then 9
 else if i.1=9/\(i.2<1\/16<i.2) then 9
 else if Qp i.1=2/\(i.2<0\/65535<i.2) then 10
 else if Qp i.1=1/\(i.2<0\/255<i.2) then 10
 else 0
def Ky (op:Int):Int:=if op=3\/op=5\/op=7\/op=8\/op=11 then 1 else if op=9 then 2 else 0
def K1 (op:Int):Int:=if op=1\/op=2\/op=4\/op=6\/op=8\/op=9 then 1 else 0
def Xn (op:Int) (f:Fr):Int:=if op=2\/op=3 then f.s else if op=4 then f.o else if op=5 then f.n else if op=6 then f.i else if op=7 then f.u else -1
structure Pl where
 met:Bool
 d:Int
 f:Int
def Pl.no:Pl:=⟨false,0,0⟩
def Ja5 (ps:List Pl) (tg:Nat) (d f:Int):Option (List Pl):=
 match ps[tg]? with
 | none=>none
 | some p=>if p.met=true then if p.d=d then some (ps.set tg ⟨true,p.d,max p.f f⟩) else none else some (ps.set tg ⟨true,d,f⟩)
def Jct (f:Fr) (at_:Nat) (i:Int×Int) (ps:List Pl) (dep:Int):Int×List Pl×Int:=
 if Qj i≠0 then(Qj i,ps,dep)
 else if 0<=Xn i.1 f/\Xn i.1 f<=i.2 then(10,ps,dep)
 else if (ps.getD at_ Pl.no).met=false then(13,ps,dep)
 else if (ps.getD at_ Pl.no).d<Ky i.1\/16<(ps.getD at_ Pl.no).d-Ky i.1+K1 i.1 then(12,ps,dep)
 else if (i.1=10\/i.1=11)/\(ps.length:Int)<=at_+1+i.2 then(11,ps,max dep ((ps.getD at_ Pl.no).d-Ky i.1+K1 i.1))
 else
  match (if i.1=10 then some ps else Ja5 ps (at_+1) ((ps.getD at_ Pl.no).d-Ky i.1+K1 i.1) ((ps.getD at_ Pl.no).f+1)) with
  | none=>(12,ps,max dep ((ps.getD at_ Pl.no).d-Ky i.1+K1 i.1))
  | some ps1=>
   if i.1=10\/i.1=11 then
    match Ja5 ps1 ((at_:Int)+1+i.2).toNat ((ps.getD at_ Pl.no).d-Ky i.1+K1 i.1) ((ps.getD at_ Pl.no).f+1) with
    | none=>(12,ps1,max dep ((ps.getD at_ Pl.no).d-Ky i.1+K1 i.1))
    | some ps2=>(0,ps2,max dep ((ps.getD at_ Pl.no).d-Ky i.1+K1 i.1))
   else(0,ps1,max dep ((ps.getD at_ Pl.no).d-Ky i.1+K1 i.1))
def goJ (f:Fr) (n:Nat):Nat->List (Int×Int)->List Pl->Int->(Int×Int)×Int×Int
 | _,[],ps,dep=>if (ps.getD n Pl.no).d≠0 then((0,0),12,n) else((dep,(ps.getD n Pl.no).f),0,0)
 | at_,i :: r,ps,dep=>if (Jct f at_ i ps dep).1≠0 then((0,0),(Jct f at_ i ps dep).1,at_) else goJ f n (at_+1) r (Jct f at_ i ps dep).2.1 (Jct f at_ i ps dep).2.2
def Jdk (n:Nat):List Pl:=⟨true,0,0⟩ :: List.replicate n Pl.no
def Yi (c:List (Int×Int)) (f:Fr):(Int×Int)×Int×Int:=
 if f.good=false then((0,0),1,0)
 else if 600<c.length then((0,0),3,0)
 else goJ f c.length 0 c (Jdk c.length) 0
structure Jaa (k n:Nat) (dep:Int) (ps:List Pl):Prop where
 len:ps.length=n+1
 dep0:0<=dep/\dep<=16
 all:∀(j:Nat) (p:Pl),ps[j]?=some p->0<=p.d/\p.d<=16/\0<=p.f/\p.f<=k/\(p.met=false->p.d=0/\p.f=0)
theorem Jaa.start (n:Nat):Jaa 0 n 0 (Jdk n):=by
 refine⟨by simp [Jdk],Ua,fun j p h=>?_⟩;unfold Jdk at h
 cases j with
 | zero=>simp at h;subst h;simp
 | succ j=>
  rw [List.getElem?_cons_succ,List.getElem?_replicate] at h
  split at h
  ·injection h with h;subst h;simp [Pl.no]
  ·cases h
theorem Jaa.get {k n:Nat} {dep:Int} {ps:List Pl} (h:Jaa k n dep ps) (j:Nat):0<=(ps.getD j Pl.no).d/\(ps.getD j Pl.no).d<=16/\0<=(ps.getD j Pl.no).f/\(ps.getD j Pl.no).f<=k/\((ps.getD j Pl.no).met=false->(ps.getD j Pl.no).d=0/\(ps.getD j Pl.no).f=0):=by
 rw [List.getD_eq_getElem?_getD]
 cases hx:ps[j]? with
 | none=>simp [Pl.no]
 | some p=>exact h.all j p hx
theorem Jaa.more {k k' n:Nat} {dep:Int} {ps:List Pl} (h:Jaa k n dep ps) (hk:k<=k'):Jaa k' n dep ps:=
 ⟨h.len,h.dep0,fun j p hp=>by have:=h.all j p hp;exact⟨this.1,this.2.1,this.2.2.1,Ua,this.2.2.2.2⟩⟩
theorem Jaa.deeper {k n:Nat} {dep d:Int} {ps:List Pl} (h:Jaa k n dep ps) (hd:0<=d/\d<=16):Jaa k n d ps:=⟨h.len,hd,h.all⟩
theorem Jaa.come {k n:Nat} {dep d f:Int} {ps ps':List Pl} {tg:Nat} (h:Jaa k n dep ps) (hc:Ja5 ps tg d f=some ps') (hd:0<=d/\d<=16) (hf:0<=f/\f<=k):Jaa k n dep ps':=by
 unfold Ja5 at hc
 cases hx:ps[tg]? with
 | none=>rw [hx] at hc;cases hc
 | some p=>
  rw [hx] at hc;have am:=(List.getElem?_eq_some_iff.1 hx).1;have hp:=h.all tg p hx;dsimp only at hc
  have key:∀q:Pl,0<=q.d/\q.d<=16->0<=q.f/\q.f<=k->q.met=true->Jaa k n dep (ps.set tg q):=fun q h1 h2 h3=>⟨by rw [List.length_set];exact h.len,h.dep0,fun j r hj=>by
   rw [List.getElem?_set] at hj
   by_cases hjj:tg=j
   ·rw [if_pos hjj,if_pos am] at hj;injection hj with hj;subst hj;exact⟨h1.1,h1.2,h2.1,h2.2,fun he=>by rw [h3] at he;cases he⟩
   ·rw [if_neg hjj] at hj;exact h.all j r hj⟩
  split at hc
  ·split at hc
   ·injection hc with hc;subst hc;exact key _ ⟨hp.1,hp.2.1⟩ (by dsimp only;omega) rfl
   ·cases hc
  ·injection hc with hc;subst hc;exact key _ hd hf rfl
theorem Jjp (op:Int):0<=Ky op/\Ky op<=2:=by
  unfold Ky;repeat' split
  all_goals omega
theorem Jj1 (op:Int):0<=K1 op/\K1 op<=1:=by unfold K1;split <;> omega
theorem Jaa.one {k n:Nat} {dep:Int} {ps:List Pl} {f:Fr} {at_:Nat} {i:Int×Int} (h:Jaa k n dep ps) (h0:(Jct f at_ i ps dep).1=0):Jaa (k+1) n (Jct f at_ i ps dep).2.2 (Jct f at_ i ps dep).2.1:=by
 have hg:=h.get at_;have ht:=Jjp i.1;have hv:=Jj1 i.1;have oH:=h.dep0
 revert h0
 unfold Jct
 split
 ·intro h0;exact absurd h0 (by assumption)
 split
 ·intro h0;exact absurd (show(10:Int)=0 from h0) Ux
 split
 ·intro h0;exact absurd (show(13:Int)=0 from h0) Ux
 split
 ·intro h0;exact absurd (show(12:Int)=0 from h0) Ux
 split
 ·intro h0;exact absurd (show(11:Int)=0 from h0) Ux
 rename_i aS _;have hd:0<=(ps.getD at_ Pl.no).d-Ky i.1+K1 i.1/\(ps.getD at_ Pl.no).d-Ky i.1+K1 i.1<=16:=Ua;have hf:0<=(ps.getD at_ Pl.no).f+1/\(ps.getD at_ Pl.no).f+1<=((k+1:Nat):Int):=Ua;have hm:0<=max dep ((ps.getD at_ Pl.no).d-Ky i.1+K1 i.1)/\max dep ((ps.getD at_ Pl.no).d-Ky i.1+K1 i.1)<=16:=Ua;generalize (ps.getD at_ Pl.no).d-Ky i.1+K1 i.1=d at hd hm;generalize (ps.getD at_ Pl.no).f+1=fu at hf;have h1:=h.more (Nat.le_succ k)
 cases hc:(if i.1=10 then some ps else Ja5 ps (at_+1) d fu) with
 | none=>intro h0;exact absurd (show(12:Int)=0 from h0) Ux
 | some ps1=>
  have h2:Jaa (k+1) n dep ps1:=by
   split at hc
   ·injection hc with hc;subst hc;exact h1
   ·exact h1.come hc hd hf
  dsimp only
  split
  ·cases dm:Ja5 ps1 ((at_:Int)+1+i.2).toNat d fu with
   | none=>intro h0;exact absurd (show(12:Int)=0 from h0) Ux
   | some ps2=>exact fun _=>(h2.come dm hd hf).deeper hm
  ·exact fun _=>h2.deeper hm
end Go.Proofs.YtknfcamdfdfoeaaGreatDoor
