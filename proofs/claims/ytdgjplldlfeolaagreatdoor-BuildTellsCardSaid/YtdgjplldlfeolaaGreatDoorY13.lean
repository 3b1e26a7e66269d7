/- Lemmas. -/
import Derived.Test.YtdgjplldlfeolaaGreatDoorMac
import Derived.Test.YtdgjplldlfeolaaGreatDoorY00
import Derived.Test.YtdgjplldlfeolaaGreatDoorY09
import Derived.Deep.CutRange
import Derived.Laws.RangeAny
import Derived.Test.YtdgjplldlfeolaaGreatDoorY02
import Derived.KernelRfl
set_option linter.unusedVariables false
set_option linter.unusedSimpArgs false
set_option maxRecDepth 100000
set_option maxHeartbeats 64000000
namespace Go.Proofs.YtdgjplldlfeolaaGreatDoor
open Go.RowKit
theorem Kjf (c:Int) (w:World):Calls Tryz.prog 75 #[.int .i32 c] w fun r w'=>r = .returned (.bool (Kdh c))/\w=w':=by
 cases h1:(c == 32) <;> cases h2:(c == 9) <;> cases h3:(c == 10) <;> cases h4:(c == 13) <;>
 ·go_enter Tryz.func75,Tryz.ntmps75
  go_wp2_with fail
  go_ret;exact⟨Jk (by simp only [beq_iff_eq,beq_eq_false_iff_ne,ne_eq] at h1 h2 h3 h4;simp [Kdh,h1,h2,h3,h4]),rfl⟩
theorem Ki5 (c:Int) (w:World):Calls Tryz.prog 76 #[.int .i32 c] w fun r w'=>r = .returned (.bool (Kes c))/\w=w':=by
 cases h1:(c == 10) <;>
 ·have h2:(c != 10)=!(c == 10):=rfl;rw [h1] at h2
  go_enter Tryz.func76,Tryz.ntmps76
  go_wp2_with fail
  go_ret;exact⟨Jk (by simp only [beq_iff_eq,beq_eq_false_iff_ne,ne_eq] at h1;simp [Kes,h1]),rfl⟩
theorem Kk3 (s:ByteArray) (w:World) (hs:s.size<=maxLen):Calls Tryz.prog 74 #[.string s,.func (.func 75) #[] #[]] w fun r w'=>r = .returned (.string (s.extract 0 (Zb Kdh s (s.size+1) 0)))/\Below w.heap.size w w':=by
 unfold maxLen at hs
 go_enter Tryz.func74,Tryz.ntmps74
 go_wp2_with fail
 go_loopg [] (s.size+1) (fun k wr=>∃pos,s.size<k+pos/\Zb Kdh s k pos=Zb Kdh s (s.size+1) 0/\wr=w.iter s pos)
 case atStart=>exact⟨0,Ua,rfl,rfl⟩
 case round=>
  obtain⟨pos,hk,aa,rfl⟩:=hrel
  by_cases am:pos<s.size
  ·have qU:=fun ty=>run_next_any (P:=Tryz.prog) w s pos ty am;obtain⟨k,rfl⟩:∃k,gk=k+1:=⟨gk-1,Ua⟩;have cP:=Jqv s pos;rw [Zb,if_pos am] at aa;generalize (Utf8.decode s pos).1=rn at qU aa;generalize (Utf8.decode s pos).2=sz at qU aa cP
   cases hp:Kdh (rn:Int)
   ·rw [hp,if_neg Uh] at aa;have HR:=Nf aa;clear aa
    go_wp2_with (go_at_call 75;refine(Kjf _ _).mono ?_;rintro r w1 ⟨rfl,rfl⟩)
    exact Ub6
   ·rw [hp,if_pos rfl] at aa;have HR:=Nf aa;clear aa
    go_wp2_with (go_at_call 75;refine(Kjf _ _).mono ?_;rintro r w1 ⟨rfl,rfl⟩)
    exact Ub3
  ·have qU:=fun ty=>run_next_end (P:=Tryz.prog) w s pos ty am;have fa:Zb Kdh s gk pos=s.size:=Dj;exact Ubc
theorem Kk0 (s:ByteArray) (w:World) (hs:s.size<=maxLen):Calls Tryz.prog 74 #[.string s,.func (.func 76) #[] #[]] w fun r w'=>r = .returned (.string (s.extract 0 (Zb Kes s (s.size+1) 0)))/\Below w.heap.size w w':=by
 unfold maxLen at hs
 go_enter Tryz.func74,Tryz.ntmps74
 go_wp2_with fail
 go_loopg [] (s.size+1) (fun k wr=>∃pos,s.size<k+pos/\Zb Kes s k pos=Zb Kes s (s.size+1) 0/\wr=w.iter s pos)
 case atStart=>exact⟨0,Ua,rfl,rfl⟩
 case round=>
  obtain⟨pos,hk,aa,rfl⟩:=hrel
  by_cases am:pos<s.size
  ·have qU:=fun ty=>run_next_any (P:=Tryz.prog) w s pos ty am;obtain⟨k,rfl⟩:∃k,gk=k+1:=⟨gk-1,Ua⟩;have cP:=Jqv s pos;rw [Zb,if_pos am] at aa;generalize (Utf8.decode s pos).1=rn at qU aa;generalize (Utf8.decode s pos).2=sz at qU aa cP
   cases hp:Kes (rn:Int)
   ·rw [hp,if_neg Uh] at aa;have HR:=Nf aa;clear aa
    go_wp2_with (go_at_call 76;refine(Ki5 _ _).mono ?_;rintro r w1 ⟨rfl,rfl⟩)
    exact Ub6
   ·rw [hp,if_pos rfl] at aa;have HR:=Nf aa;clear aa
    go_wp2_with (go_at_call 76;refine(Ki5 _ _).mono ?_;rintro r w1 ⟨rfl,rfl⟩)
    exact Ub3
  ·have qU:=fun ty=>run_next_end (P:=Tryz.prog) w s pos ty am;have fa:Zb Kes s gk pos=s.size:=Dj;exact Ubc
theorem Kli (s:ByteArray) (w:World) (hs:s.size<=maxLen):Calls Tryz.prog 74 #[.string s,.func (.func 80) #[] #[]] w fun r w'=>r = .returned (.string (s.extract 0 (Zb Jbz s (s.size+1) 0)))/\Below w.heap.size w w':=by
 unfold maxLen at hs
 go_enter Tryz.func74,Tryz.ntmps74
 go_wp2_with fail
 go_loopg [] (s.size+1) (fun k wr=>∃pos,s.size<k+pos/\Zb Jbz s k pos=Zb Jbz s (s.size+1) 0/\wr=w.iter s pos)
 case atStart=>exact⟨0,Ua,rfl,rfl⟩
 case round=>
  obtain⟨pos,hk,aa,rfl⟩:=hrel
  by_cases am:pos<s.size
  ·have qU:=fun ty=>run_next_any (P:=Tryz.prog) w s pos ty am;obtain⟨k,rfl⟩:∃k,gk=k+1:=⟨gk-1,Ua⟩;have cP:=Jqv s pos;rw [Zb,if_pos am] at aa;generalize (Utf8.decode s pos).1=rn at qU aa;generalize (Utf8.decode s pos).2=sz at qU aa cP
   cases hp:Jbz (rn:Int)
   ·rw [hp,if_neg Uh] at aa;have HR:=Nf aa;clear aa
    go_wp2_with (go_at_call 80;refine(Ju5 _ _).mono ?_;rintro r w1 ⟨rfl,rfl⟩)
    exact Ub6
   ·rw [hp,if_pos rfl] at aa;have HR:=Nf aa;clear aa
    go_wp2_with (go_at_call 80;refine(Ju5 _ _).mono ?_;rintro r w1 ⟨rfl,rfl⟩)
    exact Ub3
  ·have qU:=fun ty=>run_next_end (P:=Tryz.prog) w s pos ty am;have fa:Zb Jbz s gk pos=s.size:=Dj;exact Ubc
theorem Kjh (s:ByteArray) (w:World):Calls Tryz.prog 82 #[.string s] w fun r w'=>r = .returned (.bool (Kfl s))/\w=w':=by
 go_enter Tryz.func82,Tryz.ntmps82
 go_wp2_with fail
 all_goals first
  | (exfalso;simp_all;done)
  | (go_ret;exact⟨Jk (by simp [Kfl,Kep, *]),rfl⟩)
end Go.Proofs.YtdgjplldlfeolaaGreatDoor
namespace Go.Proofs.YtdgjplldlfeolaaGreatDoor
open Go.RowKit Go.Sort
theorem Kgd (p:Int->Bool) (s:ByteArray):(Kc8 p s).size<=s.size:=by unfold Kc8;rw [ByteArray.size_extract];omega
theorem Khb (p:Int->Bool) (s:ByteArray):∀f pos,pos<=s.size->pos<=Zb p s f pos
 | 0,pos,h=>h
 | f+1,pos,h=>by
  unfold Zb
  split
  ·rename_i am
   split
   ·rcases Nat.lt_or_ge (pos+(Utf8.decode s pos).2) (s.size+1) with h2|h2
    ·have:=Khb p s f (pos+(Utf8.decode s pos).2) Ua;exact Ua
    ·cases f with
     | zero=>exact Nat.le_of_lt am
     | succ f=>unfold Zb;rw [if_neg Ua];exact h
   ·exact Ns _
  ·exact h
theorem Kod (s:ByteArray) (k:Nat):(Kd6 s k).size=s.size-k:=by unfold Kd6;rw [ByteArray.size_extract];omega
theorem Kke {s:ByteArray} (h2:2<=s.size) (h:(s.extract 0 2).toList = [45,45]):1<=(Kc8 Kes s).size:=by
 have hd:(s.extract 0 2).data.toList = [45,45]:=by rw [<-ByteArray.toList_eq];exact h
 have h0:s[0]' Ua=45:=by
  have:=congrArg (fun l=>l[0]?) hd;simp only [ByteArray.data_extract,Array.toList_extract] at this;simp [List.getElem?_drop,List.getElem?_take] at this;have h3:s.data.toList[0]?=some 45:=by simpa using this
  rw [Ng Ui] at h3;injection h3 with h3
 have dy:Utf8.decode s 0=((s[0]' Ua).toNat,1):=decode_ascii s 0 Ua (by rw [h0];decide)
 have h1:1<=Zb Kes s (s.size+1) 0:=by
  rw [Zb,if_pos Ua,dy,h0];rw [if_pos Ug];exact Khb Kes s s.size 1 Ua
 unfold Kc8;rw [ByteArray.size_extract];exact Ua
theorem Kh8 (f:Nat) (s:ByteArray):Kgb (f+1) s=if (Kd6 s (Kc8 Kdh s).size).size<2 then Kd6 s (Kc8 Kdh s).size else if ((Kd6 s (Kc8 Kdh s).size).extract 0 2).toList == [45,45] then Kgb f (Kd6 (Kd6 s (Kc8 Kdh s).size) (Kc8 Kes (Kd6 s (Kc8 Kdh s).size)).size) else Kd6 s (Kc8 Kdh s).size:=rfl
theorem Kjs (s:ByteArray) (w:World) (hs:s.size<=1000000):Calls Tryz.prog 35 #[.string s] w fun r w'=>r = .returned (.string (Kfi s))/\Below w.heap.size w w':=by
 have HB:=fun t W (h:t.size<=1000000)=>Kk3 t W Uo;have HO:=fun t W (h:t.size<=1000000)=>Kk0 t W Uo
 go_enter Tryz.func35,Tryz.ntmps35
 go_wp2_with fail
 go_loopg [0] (s.size+1) (fun k sv wr=>∃t,sv = .string t/\t.size<k/\t.size<=1000000/\Kgb k t=Kfi s/\Below w.heap.size w wr)
 case atStart=>exact⟨s,rfl,Ua,hs,rfl,Nt⟩
 case round=>
  obtain⟨t,rfl,hk,ht,aa,ab⟩:=hrel;obtain⟨k,rfl⟩:∃k,gk=k+1:=⟨gk-1,Ua⟩;rw [Kh8] at aa;have hb:=fun W=>HB t W ht;have hc:=Kod t (Kc8 Kdh t).size;have nn:=Kgd Kdh t
  change ∀W,Calls Tryz.prog 74 #[.string t,.func (.func 75) #[] #[]] W fun r w'=>r = .returned (.string (Kc8 Kdh t))/\Below W.heap.size W w' at hb
  unfold Kd6 at aa hc;generalize Kc8 Kdh t=n at hb hc nn aa;obtain⟨u,hu⟩:∃u,u=t.extract n.size t.size:=⟨_,rfl⟩;rw [<-hu] at aa hc;have hu2:=hu.symm;have hus:u.size<=1000000:=Ua;have ho:=fun W=>HO u W hus
  change ∀W,Calls Tryz.prog 74 #[.string u,.func (.func 76) #[] #[]] W fun r w'=>r = .returned (.string (Kc8 Kes u))/\Below W.heap.size W w' at ho
  have lq:=Kod u (Kc8 Kes u).size;have hol:=Kgd Kes u;have hot:=Kke (s:=u);unfold Kd6 at lq;generalize Kc8 Kes u=m at ho lq hol hot aa;obtain⟨v,hv⟩:∃v,v=u.extract m.size u.size:=⟨_,rfl⟩;rw [<-hv] at aa lq;have aI:=hv.symm;have hni:(n.size:Int)<=(t.size:Int):=Ua;have hmi:(m.size:Int)<=(u.size:Int):=Ua;clear hu hv HB HO;have HC:=Nf (And.intro hc lq)
  by_cases h2:u.size<2
  ·rw [if_pos h2] at aa;have d2:decide ((u.size:Int)<2)=true:=Ui;exact Uao
  ·rw [if_neg h2] at aa;have d2:decide ((u.size:Int)<2)=false:=Ui;have h2i:(2:Int)<=(u.size:Int):=Ua
   cases h3:((u.extract 0 2).toList == [45,45])
   ·rw [h3,if_neg Uh] at aa;have h4:((u.extract 0 2).toList != [45,45])=true:=by rw [bne,h3];rfl
    exact Uao
   ·rw [h3,if_pos rfl] at aa;have h4:((u.extract 0 2).toList != [45,45])=false:=by rw [bne,h3];rfl
    have h5:=hot Ua S4;have HR:=Nf aa;clear aa hot hc lq
    go_wp2_with (first
     | (go_at_call_of 74 (Value.string t);go_loud (refine(hb _).mono ?_;rintro r w1 ⟨rfl,ac⟩))
     | (go_at_call_of 74 (Value.string u);go_loud (refine(ho _).mono ?_;rintro r w2 ⟨rfl,aq⟩)))
    go_roundg k
    case measure=>omega
    case rel=>exact⟨v,rfl,by have:=HC.out;omega,by have:=HC.out;omega,HR.out,Jd ab (Jd ac aq)⟩
theorem Kd3 {k:IntKind} {a b:Int} {c d:Bool} (h:(a,c)=(b,d)):Ending.returned (.tuple #[.int k a,.bool c]) = .returned (.tuple #[.int k b,.bool d]):=by
 injection h with h1 h2;rw [h1,h2]
def Kh5 (s d:ByteArray) (sg:Int):Int×Bool:=
 if d.size=0 then(0,false) else if 11<s.size then(0,false)
 else if d.data.toList.head?=some 48/\s.data.toList≠[48] then(0,false)
 else match Kee 0 d.data.toList with
  | none=>(0,false)
  | some n=>if -2147483648<=sg * n/\sg * n<=2147483647 then(sg * n,true) else(0,false)
theorem Klh (s:ByteArray):Kfw s=if s.data.toList.head?=some 45 then Kh5 s (Kd6 s 1) (-1) else Kh5 s s 1:=by
 unfold Kfw Kh5 Khf
 by_cases h:s.data.toList.head?=some 45
 ·simp only [h,if_true]
  split
  ·exact Gp
  ·split
   ·exact Gp
   ·split
    ·exact Gp
    ·cases Kee 0 (Kd6 s 1).data.toList with
     | none=>rfl
     | some n=>simp
 ·simp only [h,if_false]
  split
  ·exact Gp
  ·split
   ·exact Gp
   ·split
    ·exact Gp
    ·cases Kee 0 s.data.toList with
     | none=>rfl
     | some n=>simp
theorem Kf7 {s:ByteArray} (h:0<s.size) (c:UInt8):s.data.toList.head?=some c<->s[0]=c:=by
 have hl:0<s.data.toList.length:=Vl;rw [List.head?_eq_getElem?,Ng hl];simp;exact Iff.rfl
theorem Kg4 {s:ByteArray} {k:Nat} (h:k<s.size):s.data.toList.drop k=s[k] :: s.data.toList.drop (k+1):=by
 have hl:k<s.data.toList.length:=Vl;rw [No hl]
 congr 1
theorem Knl (s:ByteArray) (w:World) (hs:s.size<=maxLen):Calls Tryz.prog 81 #[.string s] w fun r w'=>r = .returned (.tuple #[.int .i32 (Kfw s).1,.bool (Kfw s).2])/\w=w':=by
 unfold maxLen at hs;have hv:=Klh s;generalize Kfw s=V at hv ⊢
 by_cases h0:0<s.size
 ·have he:=Jfp h0;have hb:s[0].toNat<256:=UInt8.toNat_lt _
  by_cases h1:s[0]=45
  ·rw [if_pos (by rw [Kf7 h0];exact h1)] at hv;have h45:((s[0].toNat:Int) == 45)=true:=by rw [h1];rfl
   unfold Kd6 at hv
   go_enter Tryz.func81,Tryz.ntmps81
   go_upto_region 4 with fail
   have hds:(s.extract 1 s.size).size<=s.size:=Dn;generalize s.extract 1 s.size=d at hv hds ⊢;clear h45 h1;unfold Kh5 at hv
   by_cases lA:0<(d).size
   ·have eD:=Jfp lA;have qY:(d)[0].toNat<256:=UInt8.toNat_lt _;rw [if_neg Ua] at hv
    by_cases gh:11<s.size
    ·exact Uaa
    ·rw [if_neg gh] at hv;have hd:decide (11<(s.size:Int))=false:=Ui
     by_cases h48:(d)[0]=48
     ·have h48b:(((d)[0].toNat:Int) == 48)=true:=by rw [h48];rfl
      have hh:(d).data.toList.head?=some 48:=(Kf7 lA _).2 h48
      by_cases hz:s.data.toList = [48]
      ·have dH:(s.toList != [48])=false:=M1;have iG:(s.toList == [48])=true:=M1;rw [if_neg (fun h=>h.2 hz)] at hv;exact Tg
      ·exact By
     ·have h48b:(((d)[0].toNat:Int) == 48)=false:=by
       simp only [beq_eq_false_iff_ne,ne_eq];intro e;exact h48 (UInt8.toNat_inj.1 (by rw [show(48:UInt8).toNat=48 from rfl];omega))
      rw [if_neg (fun h=>h48 ((Kf7 lA _).1 h.1))] at hv;exact Tg
   ·exact Uad
  ·rw [if_neg (by rw [Kf7 h0];exact h1)] at hv
   have h45:((s[0].toNat:Int) == 45)=false:=by
    simp only [beq_eq_false_iff_ne,ne_eq];intro e;exact h1 (UInt8.toNat_inj.1 (by rw [show(45:UInt8).toNat=45 from rfl];omega))
   go_enter Tryz.func81,Tryz.ntmps81
   go_upto_region 4 with fail
   have hds:s.size<=s.size:=Ns _;clear h45 h1;unfold Kh5 at hv
   by_cases lA:0<(s).size
   ·have eD:=Jfp lA;have qY:(s)[0].toNat<256:=UInt8.toNat_lt _;rw [if_neg Ua] at hv
    by_cases gh:11<s.size
    ·exact Uaa
    ·rw [if_neg gh] at hv;have hd:decide (11<(s.size:Int))=false:=Ui
     by_cases h48:(s)[0]=48
     ·have h48b:(((s)[0].toNat:Int) == 48)=true:=by rw [h48];rfl
      have hh:(s).data.toList.head?=some 48:=(Kf7 lA _).2 h48
      by_cases hz:s.data.toList = [48]
      ·have dH:(s.toList != [48])=false:=M1;have iG:(s.toList == [48])=true:=M1;rw [if_neg (fun h=>h.2 hz)] at hv;exact Th
      ·exact By
     ·have h48b:(((s)[0].toNat:Int) == 48)=false:=by
       simp only [beq_eq_false_iff_ne,ne_eq];intro e;exact h48 (UInt8.toNat_inj.1 (by rw [show(48:UInt8).toNat=48 from rfl];omega))
      rw [if_neg (fun h=>h48 ((Kf7 lA _).1 h.1))] at hv;exact Th
   ·exact Uad
 ·obtain rfl:=Je2 h0;rw [if_neg Uh] at hv;unfold Kh5 at hv;rw [if_pos (show(⟨#[]⟩:ByteArray).size=0 from rfl)] at hv;have HV:=Nf hv;clear hv
  go_enter Tryz.func81,Tryz.ntmps81
  go_wp2_with fail
  refine Nv (v:= .tuple #[.int .i32 (0),.bool false]) Uq rfl ⟨Kd3 ?_,rfl⟩;exact HV.out.symm
end Go.Proofs.YtdgjplldlfeolaaGreatDoor
namespace Go.Proofs.YtdgjplldlfeolaaGreatDoor
open Go.RowKit
def Ke8 (a b:St):Prop:=a.bad=true->b.bad=true
theorem Ke8.refl (a:St):Ke8 a a:=id
theorem Ke8.trans {a b c:St} (h:Ke8 a b) (h':Ke8 b c):Ke8 a c:=fun x=>h' (h x)
theorem Kds (ts:List Tk) (st:St) (s:ByteArray):Ke8 st (Kc6 ts st s):=by unfold Kc6;split <;> exact id
theorem Keg (ts:List Tk) (st:St) (s:ByteArray):Ke8 st (Kda ts st s):=by
 unfold Kda;split
 ·exact id
 ·exact fun _=>rfl
theorem Kh6 (ts:List Tk) (st:St) (k:Int):Ke8 st (Kdy ts st k).2:=by
 unfold Kdy;split
 ·exact fun _=>rfl
 ·split
  ·exact id
  ·exact fun _=>rfl
theorem Kf2 (ts:List Tk) (st:St):Ke8 st (Kdn ts st).2:=Kh6 ts st 1
theorem Khz (ts:List Tk) (st:St):∀l,Ke8 st (Kd7 ts st l).2
 | []=>id
 | s :: l=>by
  unfold Kd7;split
  ·exact id
  ·exact Khz ts st l
theorem Kkh (ts:List Tk):∀f nt st,Ke8 st (K3 ts f nt st).2:=by
 intro f
 induction f with
 | zero=>intro nt st;cases nt <;> exact Ke8.refl _
 | succ f ih=>
  intro nt st
  cases nt with
  | expr=>
   rw [K3];split
   ·exact((ih _ _).trans (Kds _ _ _)).trans (ih _ _)
   ·exact ih _ _
  | level k=>
   rw [K3];split
   ·exact ih _ _
   ·exact(ih _ _).trans (ih _ _)
  | loop k l=>
   rw [K3];split
   ·exact Ke8.refl _
   ·split
    ·exact(Khz _ _ _).trans (ih _ _)
    ·exact((Khz _ _ _).trans (ih _ _)).trans (ih _ _)
  | unary=>
   rw [K3];split
   ·exact(Kds _ _ _).trans (ih _ _)
   ·split
    ·exact(Kds _ _ _).trans (ih _ _)
    ·exact ih _ _
  | factor=>rw [K3];exact(ih _ _).trans (ih _ _)
  | floop x=>
   rw [K3];split
   ·exact((Kds _ _ _).trans (Kf2 _ _)).trans (ih _ _)
   ·split
    ·exact((Kds _ _ _).trans (Kf2 _ _)).trans (ih _ _)
    ·exact Ke8.refl _
  | atom=>
   rw [K3];split
   ·exact Kh6 _ _ _
   ·split
    ·exact Kds _ _ _
    ·split
     ·exact Kds _ _ _
     ·split
      ·exact((Kds _ _ _).trans (ih _ _)).trans (Keg _ _ _)
      ·split
       ·exact(((((Kds _ _ _).trans (ih _ _)).trans (Keg _ _ _)).trans (ih _ _)).trans (Keg _ _ _)).trans (ih _ _)
       ·split
        ·exact(((Kds _ _ _).trans (Kf2 _ _)).trans (ih _ _)).trans (ih _ _)
        ·exact Kf2 _ _
theorem Khk (ts:List Tk) (st:St):(Kdn ts st).2.bad=true\/st.pos<(Kdn ts st).2.pos:=by
 unfold Kdn Kdy;split
 ·exact .inl rfl
 ·split
  ·exact .inr Uh
  ·exact .inl rfl
theorem Klz {ts:List Tk} {m:Bool} {st s:St} {x:Ex} (h:Kfx ts m st=some (x,s)):Keo ts st s/\Ke8 st s:=by
 unfold Kfx at h
 split at h
 ·rename_i hk;simp only [Option.some.injEq,Prod.mk.injEq] at h;obtain⟨-,rfl⟩:=h
  have am:st.pos<ts.length:=by
   cases hn:Kc7 ts st with
   | none=>rw [hn] at hk;simp [tkZ] at hk
   | some t=>
    unfold Kc7 at hn
    split at hn
    ·simp at hn
    ·exact(Nh hn).1
  exact⟨⟨Uh,fun _=>Ui⟩,id⟩
 ·split at h
  ·exact Lc
  ·split at h
   ·exact Ubq
   ·split at h
    ·exact Ubq
    ·exact Lc
theorem Kkp {ts:List Tk} {st s:St} {x:Ex} (h:Kem ts st=some (x,s)):Keo ts st s/\Ke8 st s:=by
 unfold Kem at h
 split at h
 ·exact Lc
 ·rename_i y s1 hl;obtain⟨g1,g2⟩:=Klz hl
  split at h
  ·simp only [Option.some.injEq,Prod.mk.injEq] at h;obtain⟨-,rfl⟩:=h;exact⟨((Kdl _ _ _).trans g1).trans (Kdl _ _ _),((Kds _ _ _).trans g2).trans (Kds _ _ _)⟩
  ·exact Lc
theorem Kd1 {ts:List Tk} {st a b:St} (h:a.bad=true\/st.pos<a.pos) (hg:Keo ts a b) (hs:Ke8 a b):b.bad=true\/st.pos<b.pos:=by
 rcases h with h|h
 ·exact .inl (hs h)
 ·exact .inr (Nr h hg.1)
theorem Kla (ts:List Tk) (st:St):((Kec ts st).2.bad=true\/st.pos<(Kec ts st).2.pos)/\Keo ts st (Kec ts st).2:=by
 unfold Kec;dsimp only
 split
 ·exact⟨Kd1 (Kd1 (Khk ts st) (Kdc _ _ _) (Keg _ _ _)) (Kdl _ _ _) (Kds _ _ _),((Kdz _ _).trans (Kdc _ _ _)).trans (Kdl _ _ _)⟩
 ·exact⟨Kd1 (Kd1 (Khk ts st) (Kdc _ _ _) (Keg _ _ _)) (Kdc _ _ _) (Keg _ _ _),((Kdz _ _).trans (Kdc _ _ _)).trans (Kdc _ _ _)⟩
theorem Kjc (ts:List Tk) (st:St):((Kez ts st).2.bad=true\/st.pos<(Kez ts st).2.pos)/\Keo ts st (Kez ts st).2:=by
 obtain⟨h1,h2⟩:=Kla ts st;unfold Kez;dsimp only
 split
 ·exact Uap
 ·split
  ·exact Uap
  ·exact⟨Kd1 h1 (Kdc _ _ _) (Keg _ _ _),h2.trans (Kdc _ _ _)⟩
theorem Kiz (ts:List Tk) (st:St):((Kdt ts st).2.bad=true\/st.pos<(Kdt ts st).2.pos)/\Keo ts st (Kdt ts st).2:=by
 have h1:=Kd1 (Khk ts st) (Kdc ts _ ⟨#[61]⟩) (Keg _ _ _);have h2:=(Kdz ts st).trans (Kdc ts _ ⟨#[61]⟩);have hg:=Ke3 ts (Kfc ts) .expr;have hs:=Kkh ts (Kfc ts) .expr;unfold Kdt;generalize K3 ts (Kfc ts) .expr=F at hg hs ⊢;dsimp only
 split
 ·exact⟨Kd1 (Kd1 (Kd1 h1 (Kdl _ _ _) (Kds _ _ _)) (hg _) (hs _)) (Kdc _ _ _) (Keg _ _ _),((h2.trans (Kdl _ _ _)).trans (hg _)).trans (Kdc _ _ _)⟩
 ·split
  ·rename_i x s2 hf;obtain⟨g1,g2⟩:=Kkp hf;exact⟨Kd1 (Kd1 (Kd1 h1 g1 g2) (hg _) (hs _)) (Kdc _ _ _) (Keg _ _ _),((h2.trans g1).trans (hg _)).trans (Kdc _ _ _)⟩
  ·exact⟨Kd1 (Kd1 h1 (hg _) (hs _)) (Kdc _ _ _) (Keg _ _ _),(h2.trans (hg _)).trans (Kdc _ _ _)⟩
def e0:ByteArray:=⟨#[]⟩
abbrev tW (l:List UInt8):Tq:=(3,mkB l,0)
abbrev tM (l:List UInt8):Tq:=(4,mkB l,0)
abbrev tN (s:ByteArray):Tq:=(1,s,0)
def Kfg (k:Int) (t:List Tq):List Tq:=if k=1\/k=2\/k=3\/k=8\/k=9 then t else tM [40] :: (t ++ [tM [41]])
def Kdj (k n:Int) (s:ByteArray) (ts:List (List Tq)):List Tq:=
 if k=1 then [(2,Zn n,n)]
 else if k=2 then [if n=0 then tW [102,97,108,115,101] else tW [116,114,117,101]]
 else if k=4 then(if n=2 then tW [110,111,116] else tM [45]) :: ts.getD 0 []
 else if k=5 then ts.getD 0 [] ++ (4,Ja6 n,0) :: ts.getD 1 []
 else if k=6 then tW [105,102] :: (ts.getD 0 [] ++ tW [116,104,101,110] :: (ts.getD 1 [] ++ tW [101,108,115,101] :: ts.getD 2 []))
 else if k=7 then ts.getD 0 [] ++ tM [45,62] :: ts.getD 1 []
 else if k=8 then ts.getD 0 [] ++ [tW [119,104,101,110],tN s]
 else if k=9 then ts.getD 0 [] ++ [tW [117,110,108,101,115,115],tN s]
 else if k=10 then tW [109,101,114,103,101] :: tN s :: (ts.getD 0 [] ++ ts.getD 1 [])
 else [tN s]
namespace Ex
mutual
def toks:Ex->List Tq
 | mk k n s l=>Kdj k n s (Ktx (k == 6) l)
def Ktx (f:Bool):List Ex->List (List Tq)
 | []=>[]
 | x :: l=>(if f then toks x else Kfg x.kind (toks x)) :: Ktx f l
end
end Ex
structure Kld (m:Nat) (t:Tk):Prop where
 text:t.text.size<=m
 num:I32 t.n
 kind:0<=t.kind/\t.kind<=4
 pos:0<=t.pos/\t.pos<=m
theorem Kmo (s:ByteArray):I32 (Kfw s).1:=by
 have h0:I32 0:=⟨Ua,Ua⟩;unfold Kfw
 split
 ·exact h0
 ·split
  ·exact h0
  ·split
   ·exact h0
   ·split
    ·exact h0
    ·rename_i n _
     by_cases h : -2147483648<=(if s.data.toList.head?=some 45 then -n else n)/\(if s.data.toList.head?=some 45 then -n else n)<=2147483647
     ·rw [if_pos h];exact h
     ·rw [if_neg h];exact h0
theorem Kin (p:Int->Bool) (s:ByteArray):(Kc8 p s).size<=s.size:=by
 unfold Kc8;exact Dn
theorem Knx (s:ByteArray):(Kdg s).1.text.size<=s.size/\I32 (Kdg s).1.n/\0<=(Kdg s).1.kind/\(Kdg s).1.kind<=4:=by
 have h0:I32 0:=⟨Ua,Ua⟩;have h1:=Kin Q5 s;have h2:=Kin Jbz s;have h3:=Kmo (Kc8 Jbz s);have h4:(s.extract 0 2).size<=s.size:=Dn;have h5:(s.extract 0 1).size<=s.size:=Dn;unfold Kdg
 split
 ·split
  ·exact⟨h1,h0,Uh,Uh⟩
  ·split
   ·exact⟨h1,h0,Uh,Uh⟩
   ·exact⟨h1,h0,Uh,Uh⟩
 ·split
  ·split
   ·exact⟨h2,h3,Uh,Uh⟩
   ·exact⟨h2,h0,Uh,Uh⟩
  ·split
   ·exact⟨h4,h0,Uh,Uh⟩
   ·split
    ·exact⟨h5,h0,Uh,Uh⟩
    ·exact⟨Np,h0,Uh,Uh⟩
theorem Kfb (s:ByteArray) (k:Nat):(Kd6 s k).size<=s.size:=by unfold Kd6;rw [ByteArray.size_extract];omega
theorem Kh9:∀f s,(Kgb f s).size<=s.size
 | 0,s=>Ns _
 | f+1,s=>by
  have h1:=Kfb s (Kc8 Kdh s).size;rw [Kgb]
  split
  ·exact h1
  ·split
   ·exact Nat.le_trans (Nat.le_trans (Kh9 f _) (Kfb _ _)) h1
   ·exact h1
theorem Kiv (s:ByteArray):(Kfi s).size<=s.size:=Kh9 _ _
theorem Kjl (m:Nat):∀f left out,left.size<=m->(∀t∈out,Kld m t)->(∀t∈(Key m f left out).1,Kld m t)/\(Key m f left out).1.length<=out.length+f
 | 0,left,out,_,ho=>⟨ho,Ns _⟩
 | f+1,left,out,hl,ho=>by
  rw [Key]
  split
  ·exact⟨ho,Uh⟩
  ·split
   ·obtain⟨n1,n2,n3,n4⟩:=Knx left
    have:=Kjl m f (Kfi (Kd6 left (Kdg left).1.text.size)) (out ++ [{(Kdg left).1 with pos:=(m:Int)-left.size}]) (Nat.le_trans (Kiv _) (Nat.le_trans (Kfb _ _) hl)) (fun t ht=>by
     rcases List.mem_append.1 ht with ht|ht
     ·exact ho t ht
     ·rw [List.mem_singleton.1 ht];exact⟨Nat.le_trans n1 hl,n2,⟨n3,n4⟩,Ui,Ui⟩)
    refine⟨this.1,Nat.le_trans this.2 ?_⟩;exact Ui
   ·exact⟨Uh,Uh⟩
theorem Kmt (s:ByteArray):(∀t∈(Kdk s).1,Kld 4096 t)/\(Kdk s).1.length<=4097:=by
 unfold Kdk
 split
 ·exact⟨Uh,Uh⟩
 ·rename_i h;have:=Kjl s.size (s.size+1) (Kfi s) [] (Kiv s) Uh;refine⟨fun t ht=>?_,M0⟩;have h2:=this.1 t ht;exact⟨by have:=h2.text;omega,h2.num,h2.kind,h2.pos.1,by have:=h2.pos.2;omega⟩
section
variable {ts:List Tk}
def Kge (ts:List Tk):Prop:=∀t∈ts,Kld 4096 t
theorem Kjr (h:Kge ts) (st:St) (k:Int):(Kdy ts st k).1.text.size<=4096/\I32 (Kdy ts st k).1.n:=by
 have h0:tkZ.text.size<=4096/\I32 tkZ.n:=⟨Np,by simp [tkZ],by simp [tkZ]⟩;unfold Kdy
 split
 ·exact h0
 ·rename_i t ht
  split
  ·have:t∈ts:=by
    unfold Kc7 at ht
    split at ht
    ·simp at ht
    ·exact Ni ht
   exact⟨(h t this).text,(h t this).num⟩
  ·exact h0
theorem Kmu (h:Kge ts) (st:St):I32 ((Kc7 ts st).getD tkZ).n:=by
 cases ht:Kc7 ts st with
 | none=>exact⟨by simp [tkZ],by simp [tkZ]⟩
 | some t=>
  have:t∈ts:=by
   unfold Kc7 at ht
   split at ht
   ·simp at ht
   ·exact Ni ht
  exact(h t this).num
theorem Kfn (h:Kge ts) (st:St):(Kdn ts st).1.size<=maxLen:=by
 have:=(Kjr h st 1).1;unfold Kdn maxLen;show(Kdy ts st 1).1.text.size<=_;omega
theorem Kkw (s:ByteArray):∀f op,0<=op->op<=100->0<=Kei s f op/\Kei s f op<=100+f
 | 0,op,h,h'=>by simp [Kei]
 | f+1,op,h,h'=>by
  rw [Kei]
  split
  ·exact Ua
  ·by_cases h100:op=100
   ·subst h100
    have:∀f op,100<=op->op<=100+1->0<=Kei s f op/\Kei s f op<=100+1+f:=by
     intro f
     induction f with
     | zero=>intro op _ _;simp [Kei]
     | succ f ih=>
      intro op h1 h2;rw [Kei]
      have hmono:∀g o,0<=o->0<=Kei s g o/\Kei s g o<=max 0 (o+g):=by
       intro g
       induction g with
       | zero=>intro o ho;simp [Kei];omega
       | succ g ihg=>
        intro o ho;rw [Kei]
        split
        ·exact Ua
        ·have:=ihg (o+1) Ua;omega
      split
      ·exact Ua
      ·have:=hmono f (op+1) Ua;omega
    have:=this f (100+1) Ua Ua;exact Ua
   ·have:=Kkw s f (op+1) Ua Ua;omega
theorem Kn2 (s:ByteArray):I32 (opF s):=by
 have:=Kkw s 16 1 Ua Ua;unfold opF I32;exact Ua
theorem ok0 {k n:Int} {s:ByteArray} (hk:I64 k) (hn:I32 n) (hs:s.size<=maxLen):(Ex.mk k n s []).OK:=D8
theorem ok1 {k n:Int} {s:ByteArray} {a:Ex} (hk:I64 k) (hn:I32 n) (hs:s.size<=maxLen) (ha:a.OK):(Ex.mk k n s [a]).OK:=D8
theorem ok2 {k n:Int} {s:ByteArray} {a b:Ex} (hk:I64 k) (hn:I32 n) (hs:s.size<=maxLen) (ha:a.OK) (hb:b.OK):(Ex.mk k n s [a,b]).OK:=D8
theorem ok3 {k n:Int} {s:ByteArray} {a b c:Ex} (hk:I64 k) (hn:I32 n) (hs:s.size<=maxLen) (ha:a.OK) (hb:b.OK) (hc:c.OK):(Ex.mk k n s [a,b,c]).OK:=D8
theorem Keh:(⟨#[]⟩:ByteArray).size<=maxLen:=Np
theorem Kix:Ex.zero.OK:=ok0 (by simp [I64]) (by simp [I32]) Keh
def NT.OK:NT->Prop
 | .loop _ l=>l.OK
 | .floop x=>x.OK
 | _=>True
theorem Kmz (h:Kge ts):∀f nt st,nt.OK->(K3 ts f nt st).1.OK:=by
 have i0:∀k:Int,0<=k->k<=10->I64 k:=fun k h1 h2=>⟨Ua,Ua⟩;have j0:∀k:Int,0<=k->k<=10->I32 k:=fun k h1 h2=>⟨Ua,Ua⟩;intro f
 induction f with
 | zero=>intro nt st _;cases nt <;> exact Kix
 | succ f ih=>
  intro nt st hnt
  cases nt with
  | expr=>
   rw [K3];split
   ·exact ok2 (i0 7 Ua Ua) (j0 0 Ua Ua) Keh (ih _ _ trivial) (ih _ _ trivial)
   ·exact ih _ _ trivial
  | level k=>
   rw [K3];split
   ·exact ih _ _ trivial
   ·exact ih _ _ (ih _ _ trivial)
  | loop k l=>
   have hb:(Ex.mk 5 (opF (Kd7 ts st (Kdx k)).1) ⟨#[]⟩ [l,(K3 ts f (.level (k+1)) (Kd7 ts st (Kdx k)).2).1]).OK:=ok2 (i0 5 Ua Ua) (Kn2 _) Keh hnt (ih _ _ trivial);rw [K3];split
   ·exact hnt
   ·split
    ·exact hb
    ·exact ih _ _ hb
  | unary=>
   rw [K3];split
   ·exact ok1 (i0 4 Ua Ua) (j0 1 Ua Ua) Keh (ih _ _ trivial)
   ·split
    ·exact ok1 (i0 4 Ua Ua) (j0 2 Ua Ua) Keh (ih _ _ trivial)
    ·exact ih _ _ trivial
  | factor=>rw [K3];exact ih _ _ (ih _ _ trivial)
  | floop x=>
   rw [K3];split
   ·exact ih _ _ (ok1 (i0 8 Ua Ua) (j0 0 Ua Ua) (Kfn h _) hnt)
   ·split
    ·exact ih _ _ (ok1 (i0 9 Ua Ua) (j0 0 Ua Ua) (Kfn h _) hnt)
    ·exact hnt
  | atom=>
   rw [K3];split
   ·exact ok0 (i0 1 Ua Ua) (Kjr h _ _).2 Keh
   ·split
    ·exact ok0 (i0 2 Ua Ua) (j0 1 Ua Ua) Keh
    ·split
     ·exact ok0 (i0 2 Ua Ua) (j0 0 Ua Ua) Keh
     ·split
      ·exact ih _ _ trivial
      ·split
       ·exact ok3 (i0 6 Ua Ua) (j0 0 Ua Ua) Keh (ih _ _ trivial) (ih _ _ trivial) (ih _ _ trivial)
       ·split
        ·exact ok2 (i0 10 Ua Ua) (j0 0 Ua Ua) (Kfn h _) (ih _ _ trivial) (ih _ _ trivial)
        ·exact ok0 (i0 3 Ua Ua) (j0 0 Ua Ua) (Kfn h _)
theorem Ki0 (h:Kge ts) (st:St):Jmh (Kec ts st).1:=by
 unfold Kec;simp only
 split
 ·exact⟨Kfn h _,⟨Uh,Uh⟩,⟨Uh,Uh⟩,Keh⟩
 ·exact⟨Kfn h _,⟨Uh,Uh⟩,⟨Uh,Uh⟩,Keh⟩
theorem Kii (h:Kge ts):∀f l st,(∀v∈l,Jmh v)->(∀v∈(Ke4 ts f l st).1,Jmh v)/\(Ke4 ts f l st).1.length<=l.length+f
 | 0,l,st,hl=>⟨hl,Ns _⟩
 | f+1,l,st,hl=>by
  rw [Ke4]
  split
  ·have:=Kii h f (l ++ [(Kec ts (Kc6 ts st ⟨#[59]⟩)).1]) (Kec ts (Kc6 ts st ⟨#[59]⟩)).2 (fun v hv=>by
    rcases List.mem_append.1 hv with hv|hv
    ·exact hl v hv
    ·rw [List.mem_singleton.1 hv];exact Ki0 h _)
   exact⟨this.1,M0⟩
  ·exact⟨hl,Uh⟩
theorem Kf0 (h:Kge ts) (st:St):(∀v∈(Ker ts st).1,Jmh v)/\(Ker ts st).1.length<=ts.length+2:=by
 unfold Ker;simp only
 split
 ·exact⟨Uh,Uh⟩
 ·have:=Kii h (ts.length+1) [(Kec ts (Kda ts st ⟨#[40]⟩)).1] (Kec ts (Kda ts st ⟨#[40]⟩)).2 (fun v hv=>by rw [List.mem_singleton.1 hv];exact Ki0 h _);exact⟨this.1,by have:=this.2;simp at this;simp;omega⟩
theorem Kl7 (h:Kge ts) (st:St):Jmh (Kez ts st).1:=by
 have hd:=Ki0 h st;unfold Kez;simp only
 split
 ·exact⟨hd.1,hd.2.1,⟨Uh,Uh⟩,Kfn h _⟩
 ·split
  ·exact⟨hd.1,hd.2.1,⟨Uh,Uh⟩,Kfn h _⟩
  ·exact hd
theorem Ki7 (h:Kge ts):∀f l st,(∀v∈l,Jmh v)->(∀v∈(Kfj ts f l st).1,Jmh v)/\(Kfj ts f l st).1.length<=l.length+f
 | 0,l,st,hl=>⟨hl,Ns _⟩
 | f+1,l,st,hl=>by
  rw [Kfj]
  split
  ·exact⟨hl,Uh⟩
  ·split
   ·exact⟨hl,Uh⟩
   ·have:=Ki7 h f (l ++ [(Kez ts st).1]) (Kez ts st).2 (fun v hv=>by
     rcases List.mem_append.1 hv with hv|hv
     ·exact hl v hv
     ·rw [List.mem_singleton.1 hv];exact Kl7 h _)
    exact⟨this.1,M0⟩
theorem Knt (h:Kge ts):(Kew ts).1.name.size<=maxLen/\(∀v∈(Kew ts).1.ins,Jmh v)/\(∀v∈(Kew ts).1.outs,Jmh v)/\(∀v∈(Kew ts).1.locals,Jmh v)/\(Kew ts).1.ins.length<=ts.length+2/\(Kew ts).1.outs.length<=ts.length+2/\(Kew ts).1.locals.length<=ts.length+2:=by
 unfold Kew;simp only
 split
 ·have:=Ki7 h (ts.length+1) [(Kez ts (Kc6 ts (Kda ts (Ker ts (Kda ts (Ker ts (Kdn ts (Kda ts ⟨0,false⟩ ⟨#[110,111,100,101]⟩)).2).2 ⟨#[114,101,116,117,114,110,115]⟩)).2 ⟨#[59]⟩) ⟨#[118,97,114]⟩)).1] (Kez ts (Kc6 ts (Kda ts (Ker ts (Kda ts (Ker ts (Kdn ts (Kda ts ⟨0,false⟩ ⟨#[110,111,100,101]⟩)).2).2 ⟨#[114,101,116,117,114,110,115]⟩)).2 ⟨#[59]⟩) ⟨#[118,97,114]⟩)).2 (fun v hv=>by rw [List.mem_singleton.1 hv];exact Kl7 h _);exact⟨Kfn h _,(Kf0 h _).1,(Kf0 h _).1,this.1,(Kf0 h _).2,(Kf0 h _).2,by have:=this.2;simp at this;simp;omega⟩
 ·exact⟨Kfn h _,(Kf0 h _).1,(Kf0 h _).1,Uh,(Kf0 h _).2,(Kf0 h _).2,Uh⟩
theorem Knf (h:Kge ts) (st:St):∀x s,Kem ts st=some (x,s)->x.OK:=by
 have lit:∀m st x s,Kfx ts m st=some (x,s)->x.OK:=by
  intro m st x s hx;unfold Kfx at hx
  split at hx
  ·cases hx;exact ok0 ⟨Uh,Uh⟩ (Kmu h _) Keh
  ·split at hx
   ·cases hx
   ·split at hx
    ·cases hx;exact ok0 ⟨Uh,Uh⟩ ⟨Uh,Uh⟩ Keh
    ·split at hx
     ·cases hx;exact ok0 ⟨Uh,Uh⟩ ⟨Uh,Uh⟩ Keh
     ·cases hx
 intro x s hx;unfold Kem at hx
 split at hx
 ·cases hx
 ·rename_i y s1 hy;have hy:=lit _ _ _ _ hy
  split at hx
  ·cases hx
   split
   ·exact ok1 ⟨Uh,Uh⟩ ⟨Uh,Uh⟩ Keh hy
   ·exact hy
  ·cases hx
theorem Kk4 {a:ByteArray} {b:Int} {c d:Ex} (h1:a.size<=maxLen) (h2:0<=b/\b<=2) (h3:c.OK) (h4:d.OK):Jtj ⟨a,b,c,d⟩:=⟨h1,⟨Ui,Ui⟩,h3,h4⟩
attribute [local irreducible] Kfc K3 Kdn Kda Kc6 Kc5 Kem in
theorem Kkm (h:Kge ts) (st:St):Jtj (Kdt ts st).1:=by
 have hn:=Kfn h st;have hp:=fun s=>Kmz h (Kfc ts) .expr s trivial;have hf:=Knf h;unfold Kdt;generalize K3 ts (Kfc ts) .expr=P at *;generalize Kdn ts st=n at *;simp only
 split
 ·exact Kk4 hn Ua Kix (hp _)
 ·cases hx:Kem ts (Kda ts n.2 ⟨#[61]⟩) with
  | none=>
   exact Kk4 hn Ua Kix (hp _)
  | some y=>
   obtain⟨x,s⟩:=y;exact Kk4 hn Ua (hf _ x s hx) (hp _)
theorem Kky (h:Kge ts) (fin:Int):∀f l st,(∀q∈l,Jtj q)->(∀q∈(Kd8 ts fin f l st).1,Jtj q)/\(Kd8 ts fin f l st).1.length<=l.length+f
 | 0,l,st,hl=>⟨hl,Ns _⟩
 | f+1,l,st,hl=>by
  rw [Kd8]
  split
  ·exact⟨hl,Uh⟩
  ·split
   ·exact⟨hl,Uh⟩
   ·split
    ·exact⟨hl,Uh⟩
    ·split
     ·exact⟨hl,Uh⟩
     ·have:=Kky h fin f (l ++ [(Kdt ts st).1]) (Kdt ts st).2 (fun v hv=>by
       rcases List.mem_append.1 hv with hv|hv
       ·exact hl v hv
       ·rw [List.mem_singleton.1 hv];exact Kkm h _)
      exact⟨this.1,M0⟩
end
theorem Kje (s:ByteArray):Ke5 (Kdm s).1/\(Kdm s).1.ins.length<=1000000/\(Kdm s).1.outs.length<=1000000/\(Kdm s).1.locals.length<=1000000/\(Kdm s).1.eqs.length<=1000000:=by
 have hz:Ke5 prZ:=⟨Keh,Gi,Gi,Gi,Gi⟩;have hz':Ke5 prZ/\prZ.ins.length<=1000000/\prZ.outs.length<=1000000/\prZ.locals.length<=1000000/\prZ.eqs.length<=1000000:=⟨hz,Gi,Gi,Gi,Gi⟩;obtain⟨h1,h2⟩:=Kmt s;have h3:=Knt (ts:=(Kdk s).1) h1;have h4:=Kky (ts:=(Kdk s).1) h1 s.size ((Kdk s).1.length+1) [] (Kew (Kdk s).1).2 Uh;unfold Kdm;simp only
 split
 ·exact hz'
 ·split
  ·exact hz'
  ·split
   ·exact hz'
   ·have:=h4.2;simp at this;exact⟨⟨h3.1,h3.2.1,h3.2.2.1,h3.2.2.2.1,h4.1⟩,by have:=h3.2.2.2.2.1;simp;omega,by have:=h3.2.2.2.2.2.1;simp;omega,by have:=h3.2.2.2.2.2.2;simp;omega,Ui⟩
def Kic:ByteArray:=⟨#[110,111,100,101]⟩
theorem Klt:Kdm Kic=(prZ,16,4):=Ue
def Khl:ByteArray:=⟨#[110,111,100,101,32,102,32,40,41,32,114,101,116,117,114,110,115,32,40,121,32,58,32,105,110,116,41,59,32,108,101,116,32,121,32,61,32,49,59,32,116,101,108]⟩
def prK:Pr:=⟨⟨#[102]⟩,[],[⟨⟨#[121]⟩,1,0,⟨#[]⟩⟩],[],[⟨⟨#[121]⟩,0,Ex.zero,.mk 1 1 ⟨#[]⟩ []⟩]⟩
theorem Knz:Kdm Khl=(prK,0,0):=Ue
end Go.Proofs.YtdgjplldlfeolaaGreatDoor
