/- Lemmas. -/
import Derived.Test.YtdgjplldlfeolaaGreatDoorZ00
import Derived.Test.YtdgjplldlfeolaaGreatDoorZ17
import Derived.Deep.CutRange
import Derived.Laws.RangeAny
set_option linter.unusedVariables false
set_option linter.unusedSimpArgs false
set_option maxRecDepth 100000
set_option maxHeartbeats 64000000
namespace Go.Proofs.YtdgjplldlfeolaaGreatDoor
open Go.RowKit
theorem Kjf (c:Int) (w:World):Calls Tryz.prog 75 #[.int .i32 c] w fun r w'=>r = .returned (.bool (Kdh c))/\w=w':=by
 cases h1:(c == 32) <;> cases h2:(c == 9) <;> cases h3:(c == 10) <;> cases h4:(c == 13) <;>
 ·go_enter Tryz.func75,Tryz.ntmps75
  go_wp2_with fail
  go_ret;exact⟨Jk (by simp only [beq_iff_eq,beq_eq_false_iff_ne,ne_eq] at h1 h2 h3 h4;simp [Kdh,h1,h2,h3,h4]),rfl⟩
theorem Ki5 (c:Int) (w:World):Calls Tryz.prog 76 #[.int .i32 c] w fun r w'=>r = .returned (.bool (Kes c))/\w=w':=by
 cases h1:(c == 10) <;>
 ·have h2:(c != 10)=!(c == 10):=rfl;rw [h1] at h2
  go_enter Tryz.func76,Tryz.ntmps76
  go_wp2_with fail
  go_ret;exact⟨Jk (by simp only [beq_iff_eq,beq_eq_false_iff_ne,ne_eq] at h1;simp [Kes,h1]),rfl⟩
theorem Kk3 (s:ByteArray) (w:World) (hs:s.size<=maxLen):Calls Tryz.prog 74 #[.string s,.func (.func 75) #[] #[]] w fun r w'=>r = .returned (.string (s.extract 0 (Zb Kdh s (s.size+1) 0)))/\Below w.heap.size w w':=by
 unfold maxLen at hs
 go_enter Tryz.func74,Tryz.ntmps74
 go_wp2_with fail
 go_loopg [] (s.size+1) (fun k wr=>∃pos,s.size<k+pos/\Zb Kdh s k pos=Zb Kdh s (s.size+1) 0/\wr=w.iter s pos)
 case atStart=>exact⟨0,by omega,rfl,rfl⟩
 case round=>
  obtain⟨pos,hk,aa,rfl⟩:=hrel
  by_cases am:pos<s.size
  ·have qU:=fun ty=>run_next_any (P:=Tryz.prog) w s pos ty am;obtain⟨k,rfl⟩:∃k,gk=k+1:=⟨gk-1,by omega⟩;have cP:=Jqv s pos;rw [Zb,if_pos am] at aa;generalize (Utf8.decode s pos).1=rn at qU aa;generalize (Utf8.decode s pos).2=sz at qU aa cP
   cases hp:Kdh (rn:Int)
   ·rw [hp,if_neg (by simp)] at aa;have HR:=Lib.hid aa;clear aa
    go_wp2_with (go_at_call 75;refine(Kjf _ _).mono ?_;rintro r w1 ⟨rfl,rfl⟩)
    go_ret;exact⟨by rw [<-HR.out];rfl,Jc (Below.refl _ _) _⟩
   ·rw [hp,if_pos rfl] at aa;have HR:=Lib.hid aa;clear aa
    go_wp2_with (go_at_call 75;refine(Kjf _ _).mono ?_;rintro r w1 ⟨rfl,rfl⟩)
    go_roundg k
    case measure=>omega
    case rel=>exact⟨_,by omega,HR.out,rfl⟩
  ·have qU:=fun ty=>run_next_end (P:=Tryz.prog) w s pos ty am;have fa:Zb Kdh s gk pos=s.size:=by cases gk <;> simp [Zb,am]
   have HR:=Lib.hid (fa.symm.trans aa);clear aa fa
   go_wp2_with fail
   go_ret;exact⟨Kk (by rw [<-HR.out,Jhm]),Jc (Below.refl _ _) _⟩
theorem Kk0 (s:ByteArray) (w:World) (hs:s.size<=maxLen):Calls Tryz.prog 74 #[.string s,.func (.func 76) #[] #[]] w fun r w'=>r = .returned (.string (s.extract 0 (Zb Kes s (s.size+1) 0)))/\Below w.heap.size w w':=by
 unfold maxLen at hs
 go_enter Tryz.func74,Tryz.ntmps74
 go_wp2_with fail
 go_loopg [] (s.size+1) (fun k wr=>∃pos,s.size<k+pos/\Zb Kes s k pos=Zb Kes s (s.size+1) 0/\wr=w.iter s pos)
 case atStart=>exact⟨0,by omega,rfl,rfl⟩
 case round=>
  obtain⟨pos,hk,aa,rfl⟩:=hrel
  by_cases am:pos<s.size
  ·have qU:=fun ty=>run_next_any (P:=Tryz.prog) w s pos ty am;obtain⟨k,rfl⟩:∃k,gk=k+1:=⟨gk-1,by omega⟩;have cP:=Jqv s pos;rw [Zb,if_pos am] at aa;generalize (Utf8.decode s pos).1=rn at qU aa;generalize (Utf8.decode s pos).2=sz at qU aa cP
   cases hp:Kes (rn:Int)
   ·rw [hp,if_neg (by simp)] at aa;have HR:=Lib.hid aa;clear aa
    go_wp2_with (go_at_call 76;refine(Ki5 _ _).mono ?_;rintro r w1 ⟨rfl,rfl⟩)
    go_ret;exact⟨by rw [<-HR.out];rfl,Jc (Below.refl _ _) _⟩
   ·rw [hp,if_pos rfl] at aa;have HR:=Lib.hid aa;clear aa
    go_wp2_with (go_at_call 76;refine(Ki5 _ _).mono ?_;rintro r w1 ⟨rfl,rfl⟩)
    go_roundg k
    case measure=>omega
    case rel=>exact⟨_,by omega,HR.out,rfl⟩
  ·have qU:=fun ty=>run_next_end (P:=Tryz.prog) w s pos ty am;have fa:Zb Kes s gk pos=s.size:=by cases gk <;> simp [Zb,am]
   have HR:=Lib.hid (fa.symm.trans aa);clear aa fa
   go_wp2_with fail
   go_ret;exact⟨Kk (by rw [<-HR.out,Jhm]),Jc (Below.refl _ _) _⟩
theorem Kli (s:ByteArray) (w:World) (hs:s.size<=maxLen):Calls Tryz.prog 74 #[.string s,.func (.func 80) #[] #[]] w fun r w'=>r = .returned (.string (s.extract 0 (Zb Jbz s (s.size+1) 0)))/\Below w.heap.size w w':=by
 unfold maxLen at hs
 go_enter Tryz.func74,Tryz.ntmps74
 go_wp2_with fail
 go_loopg [] (s.size+1) (fun k wr=>∃pos,s.size<k+pos/\Zb Jbz s k pos=Zb Jbz s (s.size+1) 0/\wr=w.iter s pos)
 case atStart=>exact⟨0,by omega,rfl,rfl⟩
 case round=>
  obtain⟨pos,hk,aa,rfl⟩:=hrel
  by_cases am:pos<s.size
  ·have qU:=fun ty=>run_next_any (P:=Tryz.prog) w s pos ty am;obtain⟨k,rfl⟩:∃k,gk=k+1:=⟨gk-1,by omega⟩;have cP:=Jqv s pos;rw [Zb,if_pos am] at aa;generalize (Utf8.decode s pos).1=rn at qU aa;generalize (Utf8.decode s pos).2=sz at qU aa cP
   cases hp:Jbz (rn:Int)
   ·rw [hp,if_neg (by simp)] at aa;have HR:=Lib.hid aa;clear aa
    go_wp2_with (go_at_call 80;refine(Ju5 _ _).mono ?_;rintro r w1 ⟨rfl,rfl⟩)
    go_ret;exact⟨by rw [<-HR.out];rfl,Jc (Below.refl _ _) _⟩
   ·rw [hp,if_pos rfl] at aa;have HR:=Lib.hid aa;clear aa
    go_wp2_with (go_at_call 80;refine(Ju5 _ _).mono ?_;rintro r w1 ⟨rfl,rfl⟩)
    go_roundg k
    case measure=>omega
    case rel=>exact⟨_,by omega,HR.out,rfl⟩
  ·have qU:=fun ty=>run_next_end (P:=Tryz.prog) w s pos ty am;have fa:Zb Jbz s gk pos=s.size:=by cases gk <;> simp [Zb,am]
   have HR:=Lib.hid (fa.symm.trans aa);clear aa fa
   go_wp2_with fail
   go_ret;exact⟨Kk (by rw [<-HR.out,Jhm]),Jc (Below.refl _ _) _⟩
theorem Kjh (s:ByteArray) (w:World):Calls Tryz.prog 82 #[.string s] w fun r w'=>r = .returned (.bool (Kfl s))/\w=w':=by
 go_enter Tryz.func82,Tryz.ntmps82
 go_wp2_with fail
 all_goals first
  | (exfalso;simp_all;done)
  | (go_ret;exact⟨Jk (by simp [Kfl,Kep, *]),rfl⟩)
end Go.Proofs.YtdgjplldlfeolaaGreatDoor
namespace Go.Proofs.YtdgjplldlfeolaaGreatDoor
open Go.RowKit Go.Sort
theorem Kd3 {k:IntKind} {a b:Int} {c d:Bool} (h:(a,c)=(b,d)):Ending.returned (.tuple #[.int k a,.bool c]) = .returned (.tuple #[.int k b,.bool d]):=by
 injection h with h1 h2;rw [h1,h2]
def Kh5 (s d:ByteArray) (sg:Int):Int×Bool:=
 if d.size=0 then(0,false) else if 11<s.size then(0,false)
 else if d.data.toList.head?=some 48/\s.data.toList≠[48] then(0,false)
 else match Kee 0 d.data.toList with
  | none=>(0,false)
  | some n=>if -2147483648<=sg * n/\sg * n<=2147483647 then(sg * n,true) else(0,false)
theorem Klh (s:ByteArray):Kfw s=if s.data.toList.head?=some 45 then Kh5 s (Kd6 s 1) (-1) else Kh5 s s 1:=by
 unfold Kfw Kh5 Khf
 by_cases h:s.data.toList.head?=some 45
 ·simp only [h,if_true]
  split
  ·rfl
  ·split
   ·rfl
   ·split
    ·rfl
    ·cases Kee 0 (Kd6 s 1).data.toList with
     | none=>rfl
     | some n=>simp
 ·simp only [h,if_false]
  split
  ·rfl
  ·split
   ·rfl
   ·split
    ·rfl
    ·cases Kee 0 s.data.toList with
     | none=>rfl
     | some n=>simp
theorem Kf7 {s:ByteArray} (h:0<s.size) (c:UInt8):s.data.toList.head?=some c<->s[0]=c:=by
 have hl:0<s.data.toList.length:=by simpa using h
 rw [List.head?_eq_getElem?,List.getElem?_eq_getElem hl];simp;exact Iff.rfl
theorem Kg4 {s:ByteArray} {k:Nat} (h:k<s.size):s.data.toList.drop k=s[k] :: s.data.toList.drop (k+1):=by
 have hl:k<s.data.toList.length:=by simpa using h
 rw [List.drop_eq_getElem_cons hl]
 congr 1
theorem Knl (s:ByteArray) (w:World) (hs:s.size<=maxLen):Calls Tryz.prog 81 #[.string s] w fun r w'=>r = .returned (.tuple #[.int .i32 (Kfw s).1,.bool (Kfw s).2])/\w=w':=by
 unfold maxLen at hs;have hv:=Klh s;generalize Kfw s=V at hv ⊢
 by_cases h0:0<s.size
 ·have he:=Jfp h0;have hb:s[0].toNat<256:=UInt8.toNat_lt _
  by_cases h1:s[0]=45
  ·rw [if_pos (by rw [Kf7 h0];exact h1)] at hv;have h45:((s[0].toNat:Int) == 45)=true:=by rw [h1];rfl
   unfold Kd6 at hv
   go_enter Tryz.func81,Tryz.ntmps81
   go_upto_region 4 with fail
   have hds:(s.extract 1 s.size).size<=s.size:=by rw [ByteArray.size_extract];omega
   generalize s.extract 1 s.size=d at hv hds ⊢;clear h45 h1;unfold Kh5 at hv
   by_cases lA:0<(d).size
   ·have eD:=Jfp lA;have qY:(d)[0].toNat<256:=UInt8.toNat_lt _;rw [if_neg (by omega)] at hv
    by_cases gh:11<s.size
    ·rw [if_pos gh] at hv;have hd:decide (11<(s.size:Int))=true:=by simp;omega
     have HV:=Lib.hid hv;clear hv
     go_wp2_with fail
     refine bodyPost_ret (v:= .tuple #[.int .i32 (0),.bool false]) (by simp [results,Tryz.results81,go_sem, *]) rfl ⟨Kd3 ?_,rfl⟩;exact HV.out.symm
    ·rw [if_neg gh] at hv;have hd:decide (11<(s.size:Int))=false:=by simp;omega
     by_cases h48:(d)[0]=48
     ·have h48b:(((d)[0].toNat:Int) == 48)=true:=by rw [h48];rfl
      have hh:(d).data.toList.head?=some 48:=(Kf7 lA _).2 h48
      by_cases hz:s.data.toList = [48]
      ·have dH:(s.toList != [48])=false:=by rw [ByteArray.toList_eq,hz];rfl
       have iG:(s.toList == [48])=true:=by rw [ByteArray.toList_eq,hz];rfl
       rw [if_neg (fun h=>h.2 hz)] at hv;have HV:=Lib.hid hv;clear hv
       go_wp2_with fail
       go_loopw [6,37] (fun n i wr=>∃(k m:Nat),k<=(d).size/\i = .int .i64 k/\n = .int .i64 m/\m<10 ^ k/\Kee m ((d).data.toList.drop k)=Kee 0 (d).data.toList/\wr=w) (fun _ i _=>(d).size-(intOf i).toNat)
       case atStart=>exact⟨0,0,Nat.zero_le _,rfl,rfl,by simp,rfl,rfl⟩
       case round=>
        obtain⟨k,m,hk,rfl,rfl,hm,aa,rfl⟩:=hrel;have xj:10 ^ k<=100000000000:=Nat.pow_le_pow_right (n:=10) (by omega) (show k<=11 by omega)
        by_cases am:k<(d).size
        ·rw [Kg4 am,Kee] at aa;have el:(d)[k].toNat<256:=UInt8.toNat_lt _;have hki:(k:Int)<((d).size:Int):=by omega
         by_cases c1:((d)[k].toNat:Int)<48
         ·rw [if_pos c1] at aa;have hv:=HV.out;rw [<-aa] at hv;have bL:=Lib.hid hv;clear hv aa HV;have d1:decide (((d)[k].toNat:Int)<48)=true:=by simpa using c1
          go_wp2_with fail
          refine bodyPost_ret (v:= .tuple #[.int .i32 (0),.bool false]) (by simp [results,Tryz.results81,go_sem, *]) rfl ⟨Kd3 ?_,rfl⟩;exact bL.out.symm
         ·rw [if_neg c1] at aa;have d1:decide (((d)[k].toNat:Int)<48)=false:=by simpa using c1
          by_cases c2:57<((d)[k].toNat:Int)
          ·rw [if_pos c2] at aa;have hv:=HV.out;rw [<-aa] at hv;have bL:=Lib.hid hv;clear hv aa HV;have d2:decide (57<((d)[k].toNat:Int))=true:=by simpa using c2
           go_wp2_with fail
           refine bodyPost_ret (v:= .tuple #[.int .i32 (0),.bool false]) (by simp [results,Tryz.results81,go_sem, *]) rfl ⟨Kd3 ?_,rfl⟩;exact bL.out.symm
          ·rw [if_neg c2] at aa;have d2:decide (57<((d)[k].toNat:Int))=false:=by simpa using c2
           have HR:=Lib.hid aa;clear aa
           go_wp2_with fail
           go_roundw
           case rel=>exact⟨k+1,10 * m+((d)[k].toNat-48),by omega,by go_num,by go_num,by rw [Nat.pow_succ];omega,by rw [<-HR.out];congr 1;omega,by first|trivial|rfl⟩
           case measure=>simp [intOf];omega
        ·obtain rfl:k=(d).size:=by omega
         rw [List.drop_eq_nil_of_le (by simp),Kee] at aa;have hv:=HV.out;rw [<-aa] at hv;dsimp only at hv;clear HV aa
         by_cases dV : -2147483648<=(-1) * (m:Int)/\(-1) * (m:Int)<=2147483647
         ·rw [if_pos dV] at hv;have hw:wrap32 (-(m:Int))=(-(m:Int)):=by unfold wrap32;omega
          have HV:=Lib.hid hv;clear hv
          go_wp2_with fail
          refine bodyPost_ret (v:= .tuple #[.int .i32 ((-(m:Int))),.bool true]) (by simp [results,Tryz.results81,go_sem, *]) rfl ⟨Kd3 ?_,rfl⟩;rw [HV.out]
          congr 1
          omega
         ·rw [if_neg dV] at hv;have hw:wrap32 (-(m:Int))≠(-(m:Int)):=by unfold wrap32;omega
          have wD:wrap64 (wrap32 (-(m:Int)))=wrap32 (-(m:Int)):=by unfold wrap64 wrap32;omega
          have sh:(wrap64 (wrap32 (-(m:Int))) != (-(m:Int)))=true:=by rw [wD];simpa using hw
          have HV:=Lib.hid hv;clear hv hw wD
          go_wp2_with fail
          refine bodyPost_ret (v:= .tuple #[.int .i32 (0),.bool false]) (by simp [results,Tryz.results81,go_sem, *]) rfl ⟨Kd3 ?_,rfl⟩;exact HV.out.symm
      ·have dH:(s.toList != [48])=true:=by rw [ByteArray.toList_eq];simpa using hz
       have iG:(s.toList == [48])=false:=by rw [ByteArray.toList_eq];simpa using hz
       rw [if_pos ⟨hh,hz⟩] at hv;have HV:=Lib.hid hv;clear hv hh hz h48
       go_wp2_with fail
       refine bodyPost_ret (v:= .tuple #[.int .i32 (0),.bool false]) (by simp [results,Tryz.results81,go_sem, *]) rfl ⟨Kd3 ?_,rfl⟩;exact HV.out.symm
     ·have h48b:(((d)[0].toNat:Int) == 48)=false:=by
       simp only [beq_eq_false_iff_ne,ne_eq];intro e;exact h48 (UInt8.toNat_inj.1 (by rw [show(48:UInt8).toNat=48 from rfl];omega))
      rw [if_neg (fun h=>h48 ((Kf7 lA _).1 h.1))] at hv;have HV:=Lib.hid hv;clear hv
      go_wp2_with fail
      go_loopw [6,37] (fun n i wr=>∃(k m:Nat),k<=(d).size/\i = .int .i64 k/\n = .int .i64 m/\m<10 ^ k/\Kee m ((d).data.toList.drop k)=Kee 0 (d).data.toList/\wr=w) (fun _ i _=>(d).size-(intOf i).toNat)
      case atStart=>exact⟨0,0,Nat.zero_le _,rfl,rfl,by simp,rfl,rfl⟩
      case round=>
       obtain⟨k,m,hk,rfl,rfl,hm,aa,rfl⟩:=hrel;have xj:10 ^ k<=100000000000:=Nat.pow_le_pow_right (n:=10) (by omega) (show k<=11 by omega)
       by_cases am:k<(d).size
       ·rw [Kg4 am,Kee] at aa;have el:(d)[k].toNat<256:=UInt8.toNat_lt _;have hki:(k:Int)<((d).size:Int):=by omega
        by_cases c1:((d)[k].toNat:Int)<48
        ·rw [if_pos c1] at aa;have hv:=HV.out;rw [<-aa] at hv;have bL:=Lib.hid hv;clear hv aa HV;have d1:decide (((d)[k].toNat:Int)<48)=true:=by simpa using c1
         go_wp2_with fail
         refine bodyPost_ret (v:= .tuple #[.int .i32 (0),.bool false]) (by simp [results,Tryz.results81,go_sem, *]) rfl ⟨Kd3 ?_,rfl⟩;exact bL.out.symm
        ·rw [if_neg c1] at aa;have d1:decide (((d)[k].toNat:Int)<48)=false:=by simpa using c1
         by_cases c2:57<((d)[k].toNat:Int)
         ·rw [if_pos c2] at aa;have hv:=HV.out;rw [<-aa] at hv;have bL:=Lib.hid hv;clear hv aa HV;have d2:decide (57<((d)[k].toNat:Int))=true:=by simpa using c2
          go_wp2_with fail
          refine bodyPost_ret (v:= .tuple #[.int .i32 (0),.bool false]) (by simp [results,Tryz.results81,go_sem, *]) rfl ⟨Kd3 ?_,rfl⟩;exact bL.out.symm
         ·rw [if_neg c2] at aa;have d2:decide (57<((d)[k].toNat:Int))=false:=by simpa using c2
          have HR:=Lib.hid aa;clear aa
          go_wp2_with fail
          go_roundw
          case rel=>exact⟨k+1,10 * m+((d)[k].toNat-48),by omega,by go_num,by go_num,by rw [Nat.pow_succ];omega,by rw [<-HR.out];congr 1;omega,by first|trivial|rfl⟩
          case measure=>simp [intOf];omega
       ·obtain rfl:k=(d).size:=by omega
        rw [List.drop_eq_nil_of_le (by simp),Kee] at aa;have hv:=HV.out;rw [<-aa] at hv;dsimp only at hv;clear HV aa
        by_cases dV : -2147483648<=(-1) * (m:Int)/\(-1) * (m:Int)<=2147483647
        ·rw [if_pos dV] at hv;have hw:wrap32 (-(m:Int))=(-(m:Int)):=by unfold wrap32;omega
         have HV:=Lib.hid hv;clear hv
         go_wp2_with fail
         refine bodyPost_ret (v:= .tuple #[.int .i32 ((-(m:Int))),.bool true]) (by simp [results,Tryz.results81,go_sem, *]) rfl ⟨Kd3 ?_,rfl⟩;rw [HV.out]
         congr 1
         omega
        ·rw [if_neg dV] at hv;have hw:wrap32 (-(m:Int))≠(-(m:Int)):=by unfold wrap32;omega
         have wD:wrap64 (wrap32 (-(m:Int)))=wrap32 (-(m:Int)):=by unfold wrap64 wrap32;omega
         have sh:(wrap64 (wrap32 (-(m:Int))) != (-(m:Int)))=true:=by rw [wD];simpa using hw
         have HV:=Lib.hid hv;clear hv hw wD
         go_wp2_with fail
         refine bodyPost_ret (v:= .tuple #[.int .i32 (0),.bool false]) (by simp [results,Tryz.results81,go_sem, *]) rfl ⟨Kd3 ?_,rfl⟩;exact HV.out.symm
   ·have hdz:=Je2 lA;rw [if_pos (by omega)] at hv;have HV:=Lib.hid hv;clear hv;subst hdz
    go_wp2_with fail
    refine bodyPost_ret (v:= .tuple #[.int .i32 (0),.bool false]) (by simp [results,Tryz.results81,go_sem, *]) rfl ⟨Kd3 ?_,rfl⟩;exact HV.out.symm
  ·rw [if_neg (by rw [Kf7 h0];exact h1)] at hv
   have h45:((s[0].toNat:Int) == 45)=false:=by
    simp only [beq_eq_false_iff_ne,ne_eq];intro e;exact h1 (UInt8.toNat_inj.1 (by rw [show(45:UInt8).toNat=45 from rfl];omega))
   go_enter Tryz.func81,Tryz.ntmps81
   go_upto_region 4 with fail
   have hds:s.size<=s.size:=Nat.le_refl _;clear h45 h1;unfold Kh5 at hv
   by_cases lA:0<(s).size
   ·have eD:=Jfp lA;have qY:(s)[0].toNat<256:=UInt8.toNat_lt _;rw [if_neg (by omega)] at hv
    by_cases gh:11<s.size
    ·rw [if_pos gh] at hv;have hd:decide (11<(s.size:Int))=true:=by simp;omega
     have HV:=Lib.hid hv;clear hv
     go_wp2_with fail
     refine bodyPost_ret (v:= .tuple #[.int .i32 (0),.bool false]) (by simp [results,Tryz.results81,go_sem, *]) rfl ⟨Kd3 ?_,rfl⟩;exact HV.out.symm
    ·rw [if_neg gh] at hv;have hd:decide (11<(s.size:Int))=false:=by simp;omega
     by_cases h48:(s)[0]=48
     ·have h48b:(((s)[0].toNat:Int) == 48)=true:=by rw [h48];rfl
      have hh:(s).data.toList.head?=some 48:=(Kf7 lA _).2 h48
      by_cases hz:s.data.toList = [48]
      ·have dH:(s.toList != [48])=false:=by rw [ByteArray.toList_eq,hz];rfl
       have iG:(s.toList == [48])=true:=by rw [ByteArray.toList_eq,hz];rfl
       rw [if_neg (fun h=>h.2 hz)] at hv;have HV:=Lib.hid hv;clear hv
       go_wp2_with fail
       go_loopw [6,37] (fun n i wr=>∃(k m:Nat),k<=(s).size/\i = .int .i64 k/\n = .int .i64 m/\m<10 ^ k/\Kee m ((s).data.toList.drop k)=Kee 0 (s).data.toList/\wr=w) (fun _ i _=>(s).size-(intOf i).toNat)
       case atStart=>exact⟨0,0,Nat.zero_le _,rfl,rfl,by simp,rfl,rfl⟩
       case round=>
        obtain⟨k,m,hk,rfl,rfl,hm,aa,rfl⟩:=hrel;have xj:10 ^ k<=100000000000:=Nat.pow_le_pow_right (n:=10) (by omega) (show k<=11 by omega)
        by_cases am:k<(s).size
        ·rw [Kg4 am,Kee] at aa;have el:(s)[k].toNat<256:=UInt8.toNat_lt _;have hki:(k:Int)<((s).size:Int):=by omega
         by_cases c1:((s)[k].toNat:Int)<48
         ·rw [if_pos c1] at aa;have hv:=HV.out;rw [<-aa] at hv;have bL:=Lib.hid hv;clear hv aa HV;have d1:decide (((s)[k].toNat:Int)<48)=true:=by simpa using c1
          go_wp2_with fail
          refine bodyPost_ret (v:= .tuple #[.int .i32 (0),.bool false]) (by simp [results,Tryz.results81,go_sem, *]) rfl ⟨Kd3 ?_,rfl⟩;exact bL.out.symm
         ·rw [if_neg c1] at aa;have d1:decide (((s)[k].toNat:Int)<48)=false:=by simpa using c1
          by_cases c2:57<((s)[k].toNat:Int)
          ·rw [if_pos c2] at aa;have hv:=HV.out;rw [<-aa] at hv;have bL:=Lib.hid hv;clear hv aa HV;have d2:decide (57<((s)[k].toNat:Int))=true:=by simpa using c2
           go_wp2_with fail
           refine bodyPost_ret (v:= .tuple #[.int .i32 (0),.bool false]) (by simp [results,Tryz.results81,go_sem, *]) rfl ⟨Kd3 ?_,rfl⟩;exact bL.out.symm
          ·rw [if_neg c2] at aa;have d2:decide (57<((s)[k].toNat:Int))=false:=by simpa using c2
           have HR:=Lib.hid aa;clear aa
           go_wp2_with fail
           go_roundw
           case rel=>exact⟨k+1,10 * m+((s)[k].toNat-48),by omega,by go_num,by go_num,by rw [Nat.pow_succ];omega,by rw [<-HR.out];congr 1;omega,by first|trivial|rfl⟩
           case measure=>simp [intOf];omega
        ·obtain rfl:k=(s).size:=by omega
         rw [List.drop_eq_nil_of_le (by simp),Kee] at aa;have hv:=HV.out;rw [<-aa] at hv;dsimp only at hv;clear HV aa
         by_cases dV : -2147483648<=1 * (m:Int)/\1 * (m:Int)<=2147483647
         ·rw [if_pos dV] at hv;have hw:wrap32 (m:Int)=(m:Int):=by unfold wrap32;omega
          have HV:=Lib.hid hv;clear hv
          go_wp2_with fail
          refine bodyPost_ret (v:= .tuple #[.int .i32 ((m:Int)),.bool true]) (by simp [results,Tryz.results81,go_sem, *]) rfl ⟨Kd3 ?_,rfl⟩;rw [HV.out]
          congr 1
          omega
         ·rw [if_neg dV] at hv;have hw:wrap32 (m:Int)≠(m:Int):=by unfold wrap32;omega
          have wD:wrap64 (wrap32 (m:Int))=wrap32 (m:Int):=by unfold wrap64 wrap32;omega
          have sh:(wrap64 (wrap32 (m:Int)) != (m:Int))=true:=by rw [wD];simpa using hw
          have HV:=Lib.hid hv;clear hv hw wD
          go_wp2_with fail
          refine bodyPost_ret (v:= .tuple #[.int .i32 (0),.bool false]) (by simp [results,Tryz.results81,go_sem, *]) rfl ⟨Kd3 ?_,rfl⟩;exact HV.out.symm
      ·have dH:(s.toList != [48])=true:=by rw [ByteArray.toList_eq];simpa using hz
       have iG:(s.toList == [48])=false:=by rw [ByteArray.toList_eq];simpa using hz
       rw [if_pos ⟨hh,hz⟩] at hv;have HV:=Lib.hid hv;clear hv hh hz h48
       go_wp2_with fail
       refine bodyPost_ret (v:= .tuple #[.int .i32 (0),.bool false]) (by simp [results,Tryz.results81,go_sem, *]) rfl ⟨Kd3 ?_,rfl⟩;exact HV.out.symm
     ·have h48b:(((s)[0].toNat:Int) == 48)=false:=by
       simp only [beq_eq_false_iff_ne,ne_eq];intro e;exact h48 (UInt8.toNat_inj.1 (by rw [show(48:UInt8).toNat=48 from rfl];omega))
      rw [if_neg (fun h=>h48 ((Kf7 lA _).1 h.1))] at hv;have HV:=Lib.hid hv;clear hv
      go_wp2_with fail
      go_loopw [6,37] (fun n i wr=>∃(k m:Nat),k<=(s).size/\i = .int .i64 k/\n = .int .i64 m/\m<10 ^ k/\Kee m ((s).data.toList.drop k)=Kee 0 (s).data.toList/\wr=w) (fun _ i _=>(s).size-(intOf i).toNat)
      case atStart=>exact⟨0,0,Nat.zero_le _,rfl,rfl,by simp,rfl,rfl⟩
      case round=>
       obtain⟨k,m,hk,rfl,rfl,hm,aa,rfl⟩:=hrel;have xj:10 ^ k<=100000000000:=Nat.pow_le_pow_right (n:=10) (by omega) (show k<=11 by omega)
       by_cases am:k<(s).size
       ·rw [Kg4 am,Kee] at aa;have el:(s)[k].toNat<256:=UInt8.toNat_lt _;have hki:(k:Int)<((s).size:Int):=by omega
        by_cases c1:((s)[k].toNat:Int)<48
        ·rw [if_pos c1] at aa;have hv:=HV.out;rw [<-aa] at hv;have bL:=Lib.hid hv;clear hv aa HV;have d1:decide (((s)[k].toNat:Int)<48)=true:=by simpa using c1
         go_wp2_with fail
         refine bodyPost_ret (v:= .tuple #[.int .i32 (0),.bool false]) (by simp [results,Tryz.results81,go_sem, *]) rfl ⟨Kd3 ?_,rfl⟩;exact bL.out.symm
        ·rw [if_neg c1] at aa;have d1:decide (((s)[k].toNat:Int)<48)=false:=by simpa using c1
         by_cases c2:57<((s)[k].toNat:Int)
         ·rw [if_pos c2] at aa;have hv:=HV.out;rw [<-aa] at hv;have bL:=Lib.hid hv;clear hv aa HV;have d2:decide (57<((s)[k].toNat:Int))=true:=by simpa using c2
          go_wp2_with fail
          refine bodyPost_ret (v:= .tuple #[.int .i32 (0),.bool false]) (by simp [results,Tryz.results81,go_sem, *]) rfl ⟨Kd3 ?_,rfl⟩;exact bL.out.symm
         ·rw [if_neg c2] at aa;have d2:decide (57<((s)[k].toNat:Int))=false:=by simpa using c2
          have HR:=Lib.hid aa;clear aa
          go_wp2_with fail
          go_roundw
          case rel=>exact⟨k+1,10 * m+((s)[k].toNat-48),by omega,by go_num,by go_num,by rw [Nat.pow_succ];omega,by rw [<-HR.out];congr 1;omega,by first|trivial|rfl⟩
          case measure=>simp [intOf];omega
       ·obtain rfl:k=(s).size:=by omega
        rw [List.drop_eq_nil_of_le (by simp),Kee] at aa;have hv:=HV.out;rw [<-aa] at hv;dsimp only at hv;clear HV aa
        by_cases dV : -2147483648<=1 * (m:Int)/\1 * (m:Int)<=2147483647
        ·rw [if_pos dV] at hv;have hw:wrap32 (m:Int)=(m:Int):=by unfold wrap32;omega
         have HV:=Lib.hid hv;clear hv
         go_wp2_with fail
         refine bodyPost_ret (v:= .tuple #[.int .i32 ((m:Int)),.bool true]) (by simp [results,Tryz.results81,go_sem, *]) rfl ⟨Kd3 ?_,rfl⟩;rw [HV.out]
         congr 1
         omega
        ·rw [if_neg dV] at hv;have hw:wrap32 (m:Int)≠(m:Int):=by unfold wrap32;omega
         have wD:wrap64 (wrap32 (m:Int))=wrap32 (m:Int):=by unfold wrap64 wrap32;omega
         have sh:(wrap64 (wrap32 (m:Int)) != (m:Int))=true:=by rw [wD];simpa using hw
         have HV:=Lib.hid hv;clear hv hw wD
         go_wp2_with fail
         refine bodyPost_ret (v:= .tuple #[.int .i32 (0),.bool false]) (by simp [results,Tryz.results81,go_sem, *]) rfl ⟨Kd3 ?_,rfl⟩;exact HV.out.symm
   ·have hdz:=Je2 lA;rw [if_pos (by omega)] at hv;have HV:=Lib.hid hv;clear hv;subst hdz
    go_wp2_with fail
    refine bodyPost_ret (v:= .tuple #[.int .i32 (0),.bool false]) (by simp [results,Tryz.results81,go_sem, *]) rfl ⟨Kd3 ?_,rfl⟩;exact HV.out.symm
 ·obtain rfl:=Je2 h0;rw [if_neg (by simp)] at hv;unfold Kh5 at hv;rw [if_pos (show(⟨#[]⟩:ByteArray).size=0 from rfl)] at hv;have HV:=Lib.hid hv;clear hv
  go_enter Tryz.func81,Tryz.ntmps81
  go_wp2_with fail
  refine bodyPost_ret (v:= .tuple #[.int .i32 (0),.bool false]) (by simp [results,Tryz.results81,go_sem, *]) rfl ⟨Kd3 ?_,rfl⟩;exact HV.out.symm
theorem Kgd (p:Int->Bool) (s:ByteArray):(Kc8 p s).size<=s.size:=by unfold Kc8;rw [ByteArray.size_extract];omega
theorem Khb (p:Int->Bool) (s:ByteArray):∀f pos,pos<=s.size->pos<=Zb p s f pos
 | 0,pos,h=>h
 | f+1,pos,h=>by
  unfold Zb
  split
  ·rename_i am
   split
   ·rcases Nat.lt_or_ge (pos+(Utf8.decode s pos).2) (s.size+1) with h2|h2
    ·have:=Khb p s f (pos+(Utf8.decode s pos).2) (by omega);omega
    ·cases f with
     | zero=>exact Nat.le_of_lt am
     | succ f=>unfold Zb;rw [if_neg (by omega)];exact h
   ·exact Nat.le_refl _
  ·exact h
theorem Kod (s:ByteArray) (k:Nat):(Kd6 s k).size=s.size-k:=by unfold Kd6;rw [ByteArray.size_extract];omega
theorem Kke {s:ByteArray} (h2:2<=s.size) (h:(s.extract 0 2).toList = [45,45]):1<=(Kc8 Kes s).size:=by
 have hd:(s.extract 0 2).data.toList = [45,45]:=by rw [<-ByteArray.toList_eq];exact h
 have h0:s[0]'(by omega)=45:=by
  have:=congrArg (fun l=>l[0]?) hd;simp only [ByteArray.data_extract,Array.toList_extract] at this;simp [List.getElem?_drop,List.getElem?_take] at this;have h3:s.data.toList[0]?=some 45:=by simpa using this
  rw [List.getElem?_eq_getElem (by simp;omega)] at h3;injection h3 with h3
 have dy:Utf8.decode s 0=((s[0]'(by omega)).toNat,1):=decode_ascii s 0 (by omega) (by rw [h0];decide)
 have h1:1<=Zb Kes s (s.size+1) 0:=by
  rw [Zb,if_pos (by omega),dy,h0];rw [if_pos (by decide)];exact Khb Kes s s.size 1 (by omega)
 unfold Kc8;rw [ByteArray.size_extract];omega
theorem Kh8 (f:Nat) (s:ByteArray):Kgb (f+1) s=if (Kd6 s (Kc8 Kdh s).size).size<2 then Kd6 s (Kc8 Kdh s).size else if ((Kd6 s (Kc8 Kdh s).size).extract 0 2).toList == [45,45] then Kgb f (Kd6 (Kd6 s (Kc8 Kdh s).size) (Kc8 Kes (Kd6 s (Kc8 Kdh s).size)).size) else Kd6 s (Kc8 Kdh s).size:=rfl
theorem Kjs (s:ByteArray) (w:World) (hs:s.size<=1000000):Calls Tryz.prog 35 #[.string s] w fun r w'=>r = .returned (.string (Kfi s))/\Below w.heap.size w w':=by
 have HB:=fun t W (h:t.size<=1000000)=>Kk3 t W (by unfold maxLen;omega);have HO:=fun t W (h:t.size<=1000000)=>Kk0 t W (by unfold maxLen;omega)
 go_enter Tryz.func35,Tryz.ntmps35
 go_wp2_with fail
 go_loopg [0] (s.size+1) (fun k sv wr=>∃t,sv = .string t/\t.size<k/\t.size<=1000000/\Kgb k t=Kfi s/\Below w.heap.size w wr)
 case atStart=>exact⟨s,rfl,by omega,hs,rfl,Below.refl _ _⟩
 case round=>
  obtain⟨t,rfl,hk,ht,aa,ab⟩:=hrel;obtain⟨k,rfl⟩:∃k,gk=k+1:=⟨gk-1,by omega⟩;rw [Kh8] at aa;have hb:=fun W=>HB t W ht;have hc:=Kod t (Kc8 Kdh t).size;have nn:=Kgd Kdh t
  change ∀W,Calls Tryz.prog 74 #[.string t,.func (.func 75) #[] #[]] W fun r w'=>r = .returned (.string (Kc8 Kdh t))/\Below W.heap.size W w' at hb
  unfold Kd6 at aa hc;generalize Kc8 Kdh t=n at hb hc nn aa;obtain⟨u,hu⟩:∃u,u=t.extract n.size t.size:=⟨_,rfl⟩;rw [<-hu] at aa hc;have hu2:=hu.symm;have hus:u.size<=1000000:=by omega
  have ho:=fun W=>HO u W hus
  change ∀W,Calls Tryz.prog 74 #[.string u,.func (.func 76) #[] #[]] W fun r w'=>r = .returned (.string (Kc8 Kes u))/\Below W.heap.size W w' at ho
  have lq:=Kod u (Kc8 Kes u).size;have hol:=Kgd Kes u;have hot:=Kke (s:=u);unfold Kd6 at lq;generalize Kc8 Kes u=m at ho lq hol hot aa;obtain⟨v,hv⟩:∃v,v=u.extract m.size u.size:=⟨_,rfl⟩;rw [<-hv] at aa lq;have aI:=hv.symm;have hni:(n.size:Int)<=(t.size:Int):=by omega
  have hmi:(m.size:Int)<=(u.size:Int):=by omega
  clear hu hv HB HO;have HC:=Lib.hid (And.intro hc lq)
  by_cases h2:u.size<2
  ·rw [if_pos h2] at aa;have d2:decide ((u.size:Int)<2)=true:=by simp;omega
   have HR:=Lib.hid aa;clear aa hot hc lq aI
   go_wp2_with (go_at_call 74;go_loud (refine(hb _).mono ?_;rintro r w1 ⟨rfl,ac⟩))
   go_ret;exact⟨Kk HR.out,Jd ab ac⟩
  ·rw [if_neg h2] at aa;have d2:decide ((u.size:Int)<2)=false:=by simp;omega
   have h2i:(2:Int)<=(u.size:Int):=by omega
   cases h3:((u.extract 0 2).toList == [45,45])
   ·rw [h3,if_neg (by simp)] at aa;have h4:((u.extract 0 2).toList != [45,45])=true:=by rw [bne,h3];rfl
    have HR:=Lib.hid aa;clear aa hot hc lq aI
    go_wp2_with (go_at_call 74;go_loud (refine(hb _).mono ?_;rintro r w1 ⟨rfl,ac⟩))
    go_ret;exact⟨Kk HR.out,Jd ab ac⟩
   ·rw [h3,if_pos rfl] at aa;have h4:((u.extract 0 2).toList != [45,45])=false:=by rw [bne,h3];rfl
    have h5:=hot (by omega) (by simpa using h3);have HR:=Lib.hid aa;clear aa hot hc lq
    go_wp2_with (first
     | (go_at_call_of 74 (Value.string t);go_loud (refine(hb _).mono ?_;rintro r w1 ⟨rfl,ac⟩))
     | (go_at_call_of 74 (Value.string u);go_loud (refine(ho _).mono ?_;rintro r w2 ⟨rfl,aq⟩)))
    go_roundg k
    case measure=>omega
    case rel=>exact⟨v,rfl,by have:=HC.out;omega,by have:=HC.out;omega,HR.out,Jd ab (Jd ac aq)⟩
end Go.Proofs.YtdgjplldlfeolaaGreatDoor
namespace Go.Proofs.YtdgjplldlfeolaaGreatDoor
open Go.RowKit
def Ke8 (a b:St):Prop:=a.bad=true->b.bad=true
theorem Ke8.refl (a:St):Ke8 a a:=id
theorem Ke8.trans {a b c:St} (h:Ke8 a b) (h':Ke8 b c):Ke8 a c:=fun x=>h' (h x)
theorem Kds (ts:List Tk) (st:St) (s:ByteArray):Ke8 st (Kc6 ts st s):=by unfold Kc6;split <;> exact id
theorem Keg (ts:List Tk) (st:St) (s:ByteArray):Ke8 st (Kda ts st s):=by
 unfold Kda;split
 ·exact id
 ·exact fun _=>rfl
theorem Kh6 (ts:List Tk) (st:St) (k:Int):Ke8 st (Kdy ts st k).2:=by
 unfold Kdy;split
 ·exact fun _=>rfl
 ·split
  ·exact id
  ·exact fun _=>rfl
theorem Kf2 (ts:List Tk) (st:St):Ke8 st (Kdn ts st).2:=Kh6 ts st 1
theorem Khz (ts:List Tk) (st:St):∀l,Ke8 st (Kd7 ts st l).2
 | []=>id
 | s :: l=>by
  unfold Kd7;split
  ·exact id
  ·exact Khz ts st l
theorem Kkh (ts:List Tk):∀f nt st,Ke8 st (K3 ts f nt st).2:=by
 intro f
 induction f with
 | zero=>intro nt st;cases nt <;> exact Ke8.refl _
 | succ f ih=>
  intro nt st
  cases nt with
  | expr=>
   rw [K3];split
   ·exact((ih _ _).trans (Kds _ _ _)).trans (ih _ _)
   ·exact ih _ _
  | level k=>
   rw [K3];split
   ·exact ih _ _
   ·exact(ih _ _).trans (ih _ _)
  | loop k l=>
   rw [K3];split
   ·exact Ke8.refl _
   ·split
    ·exact(Khz _ _ _).trans (ih _ _)
    ·exact((Khz _ _ _).trans (ih _ _)).trans (ih _ _)
  | unary=>
   rw [K3];split
   ·exact(Kds _ _ _).trans (ih _ _)
   ·split
    ·exact(Kds _ _ _).trans (ih _ _)
    ·exact ih _ _
  | factor=>rw [K3];exact(ih _ _).trans (ih _ _)
  | floop x=>
   rw [K3];split
   ·exact((Kds _ _ _).trans (Kf2 _ _)).trans (ih _ _)
   ·split
    ·exact((Kds _ _ _).trans (Kf2 _ _)).trans (ih _ _)
    ·exact Ke8.refl _
  | atom=>
   rw [K3];split
   ·exact Kh6 _ _ _
   ·split
    ·exact Kds _ _ _
    ·split
     ·exact Kds _ _ _
     ·split
      ·exact((Kds _ _ _).trans (ih _ _)).trans (Keg _ _ _)
      ·split
       ·exact(((((Kds _ _ _).trans (ih _ _)).trans (Keg _ _ _)).trans (ih _ _)).trans (Keg _ _ _)).trans (ih _ _)
       ·split
        ·exact(((Kds _ _ _).trans (Kf2 _ _)).trans (ih _ _)).trans (ih _ _)
        ·exact Kf2 _ _
theorem Khk (ts:List Tk) (st:St):(Kdn ts st).2.bad=true\/st.pos<(Kdn ts st).2.pos:=by
 unfold Kdn Kdy;split
 ·exact .inl rfl
 ·split
  ·exact .inr (by simp)
  ·exact .inl rfl
theorem Klz {ts:List Tk} {m:Bool} {st s:St} {x:Ex} (h:Kfx ts m st=some (x,s)):Keo ts st s/\Ke8 st s:=by
 unfold Kfx at h
 split at h
 ·rename_i hk;simp only [Option.some.injEq,Prod.mk.injEq] at h;obtain⟨-,rfl⟩:=h
  have am:st.pos<ts.length:=by
   cases hn:Kc7 ts st with
   | none=>rw [hn] at hk;simp [tkZ] at hk
   | some t=>
    unfold Kc7 at hn
    split at hn
    ·simp at hn
    ·exact(List.getElem?_eq_some_iff.1 hn).1
  exact⟨⟨by simp,fun _=>by simp;omega⟩,id⟩
 ·split at h
  ·simp at h
  ·split at h
   ·simp only [Option.some.injEq,Prod.mk.injEq] at h;obtain⟨-,rfl⟩:=h;exact⟨Kdl _ _ _,Kds _ _ _⟩
   ·split at h
    ·simp only [Option.some.injEq,Prod.mk.injEq] at h;obtain⟨-,rfl⟩:=h;exact⟨Kdl _ _ _,Kds _ _ _⟩
    ·simp at h
theorem Kkp {ts:List Tk} {st s:St} {x:Ex} (h:Kem ts st=some (x,s)):Keo ts st s/\Ke8 st s:=by
 unfold Kem at h
 split at h
 ·simp at h
 ·rename_i y s1 hl;obtain⟨g1,g2⟩:=Klz hl
  split at h
  ·simp only [Option.some.injEq,Prod.mk.injEq] at h;obtain⟨-,rfl⟩:=h;exact⟨((Kdl _ _ _).trans g1).trans (Kdl _ _ _),((Kds _ _ _).trans g2).trans (Kds _ _ _)⟩
  ·simp at h
theorem Kd1 {ts:List Tk} {st a b:St} (h:a.bad=true\/st.pos<a.pos) (hg:Keo ts a b) (hs:Ke8 a b):b.bad=true\/st.pos<b.pos:=by
 rcases h with h|h
 ·exact .inl (hs h)
 ·exact .inr (Nat.lt_of_lt_of_le h hg.1)
theorem Kla (ts:List Tk) (st:St):((Kec ts st).2.bad=true\/st.pos<(Kec ts st).2.pos)/\Keo ts st (Kec ts st).2:=by
 unfold Kec;dsimp only
 split
 ·exact⟨Kd1 (Kd1 (Khk ts st) (Kdc _ _ _) (Keg _ _ _)) (Kdl _ _ _) (Kds _ _ _),((Kdz _ _).trans (Kdc _ _ _)).trans (Kdl _ _ _)⟩
 ·exact⟨Kd1 (Kd1 (Khk ts st) (Kdc _ _ _) (Keg _ _ _)) (Kdc _ _ _) (Keg _ _ _),((Kdz _ _).trans (Kdc _ _ _)).trans (Kdc _ _ _)⟩
theorem Kjc (ts:List Tk) (st:St):((Kez ts st).2.bad=true\/st.pos<(Kez ts st).2.pos)/\Keo ts st (Kez ts st).2:=by
 obtain⟨h1,h2⟩:=Kla ts st;unfold Kez;dsimp only
 split
 ·exact⟨Kd1 (Kd1 (Kd1 h1 (Kdl _ _ _) (Kds _ _ _)) (Kdz _ _) (Kf2 _ _)) (Kdc _ _ _) (Keg _ _ _),((h2.trans (Kdl _ _ _)).trans (Kdz _ _)).trans (Kdc _ _ _)⟩
 ·split
  ·exact⟨Kd1 (Kd1 (Kd1 h1 (Kdl _ _ _) (Kds _ _ _)) (Kdz _ _) (Kf2 _ _)) (Kdc _ _ _) (Keg _ _ _),((h2.trans (Kdl _ _ _)).trans (Kdz _ _)).trans (Kdc _ _ _)⟩
  ·exact⟨Kd1 h1 (Kdc _ _ _) (Keg _ _ _),h2.trans (Kdc _ _ _)⟩
theorem Kiz (ts:List Tk) (st:St):((Kdt ts st).2.bad=true\/st.pos<(Kdt ts st).2.pos)/\Keo ts st (Kdt ts st).2:=by
 have h1:=Kd1 (Khk ts st) (Kdc ts _ ⟨#[61]⟩) (Keg _ _ _);have h2:=(Kdz ts st).trans (Kdc ts _ ⟨#[61]⟩);have hg:=Ke3 ts (Kfc ts) .expr;have hs:=Kkh ts (Kfc ts) .expr;unfold Kdt;generalize K3 ts (Kfc ts) .expr=F at hg hs ⊢;dsimp only
 split
 ·exact⟨Kd1 (Kd1 (Kd1 h1 (Kdl _ _ _) (Kds _ _ _)) (hg _) (hs _)) (Kdc _ _ _) (Keg _ _ _),((h2.trans (Kdl _ _ _)).trans (hg _)).trans (Kdc _ _ _)⟩
 ·split
  ·rename_i x s2 hf;obtain⟨g1,g2⟩:=Kkp hf;exact⟨Kd1 (Kd1 (Kd1 h1 g1 g2) (hg _) (hs _)) (Kdc _ _ _) (Keg _ _ _),((h2.trans g1).trans (hg _)).trans (Kdc _ _ _)⟩
  ·exact⟨Kd1 (Kd1 h1 (hg _) (hs _)) (Kdc _ _ _) (Keg _ _ _),(h2.trans (hg _)).trans (Kdc _ _ _)⟩
def e0:ByteArray:=⟨#[]⟩
inductive Sh:Ex->Prop
 | num {n} : 0<=n->n<=2147483647->Sh (.mk 1 n e0 [])
 | truth {n} : n=0\/n=1->Sh (.mk 2 n e0 [])
 | var {s} : Kz s=true->Sh (.mk 3 0 s [])
 | un {n a} : n=1\/n=2->Sh a->Sh (.mk 4 n e0 [a])
 | bin {n a b} : 1<=n->n<=16->Sh a->Sh b->Sh (.mk 5 n e0 [a,b])
 | ite {a b c} : Sh a->Sh b->Sh c->Sh (.mk 6 0 e0 [a,b,c])
 | arrow {a b} : Sh a->Sh b->Sh (.mk 7 0 e0 [a,b])
 | when {k s a} : k=8\/k=9->Kz s=true->Sh a->Sh (.mk k 0 s [a])
 | merge {s a b} : Kz s=true->Sh a->Sh b->Sh (.mk 10 0 s [a,b])
theorem Kfz {s:ByteArray} (h:s.toList.isEmpty=true):s=e0:=by
 rw [<-Khs s,List.isEmpty_iff.1 h];rfl
theorem Km6 {α:Type} {l:List α} (h:l.length=1):∃a,l = [a]:=by
 match l,h with
 | [a],_=>exact⟨a,rfl⟩
theorem Kmw {α:Type} {l:List α} (h:l.length=2):∃a b,l = [a,b]:=by
 match l,h with
 | [a,b],_=>exact⟨a,b,rfl⟩
theorem Kob {α:Type} {l:List α} (h:l.length=3):∃a b c,l = [a,b,c]:=by
 match l,h with
 | [a,b,c],_=>exact⟨a,b,c,rfl⟩
theorem Kjk (e:Ex):e.formed=true->Sh e:=by
 induction e using Ex.ind with
 | h e ih=>
  intro hf;have hs:∀x∈e.sub,Sh x:=fun x hx=>ih x hx (Ex.formed_sub hf hx);rw [Ex.formed_eq,Bool.and_eq_true] at hf;have hh:=hf.1;clear ih hf;obtain⟨k,n,s,l⟩:=e;simp only [Ex.kind,Ex.n,Ex.name,Ex.sub] at hh hs;simp only [Jl,Bool.and_eq_true,Bool.or_eq_true,Bool.not_eq_true',decide_eq_false_iff_not,beq_iff_eq] at hh;obtain⟨⟨⟨⟨⟨hk,hl⟩,h1⟩,h2⟩,h3⟩,h4⟩:=hh
  have mI:k=1\/k=2\/k=3\/k=4\/k=5\/k=6\/k=7\/k=8\/k=9\/k=10:=by
   unfold Jw at hk
   repeat' split at hk
   all_goals first|omega|simp at hk
  rcases mI with rfl|rfl|rfl|rfl|rfl|rfl|rfl|rfl|rfl|rfl <;> simp only [Jw,Int.reduceEq,if_false,if_true,reduceIte,Bool.false_eq_true,false_or,true_or] at hl h1 h2 h3 h4
  ·obtain rfl:=Kfz h4;obtain rfl:l = []:=List.eq_nil_of_length_eq_zero (by omega);exact .num (by omega) (by omega)
  ·obtain rfl:=Kfz h4;obtain rfl:l = []:=List.eq_nil_of_length_eq_zero (by omega);exact .truth (by omega)
  ·obtain rfl:n=0:=by omega
   obtain rfl:l = []:=List.eq_nil_of_length_eq_zero (by omega);exact .var h3.symm
  ·obtain rfl:=Kfz h4;obtain⟨a,rfl⟩:=Km6 (by omega:l.length=1);exact .un (by omega) (hs a (by simp))
  ·obtain rfl:=Kfz h4;obtain⟨a,b,rfl⟩:=Kmw (by omega:l.length=2);exact .bin (by omega) (by omega) (hs a (by simp)) (hs b (by simp))
  ·obtain rfl:=Kfz h4;obtain rfl:n=0:=by omega
   obtain⟨a,b,c,rfl⟩:=Kob (by omega:l.length=3);exact .ite (hs a (by simp)) (hs b (by simp)) (hs c (by simp))
  ·obtain rfl:=Kfz h4;obtain rfl:n=0:=by omega
   obtain⟨a,b,rfl⟩:=Kmw (by omega:l.length=2);exact .arrow (hs a (by simp)) (hs b (by simp))
  ·obtain rfl:n=0:=by omega
   obtain⟨a,rfl⟩:=Km6 (by omega:l.length=1);exact .when (.inl rfl) h3.symm (hs a (by simp))
  ·obtain rfl:n=0:=by omega
   obtain⟨a,rfl⟩:=Km6 (by omega:l.length=1);exact .when (.inr rfl) h3.symm (hs a (by simp))
  ·obtain rfl:n=0:=by omega
   obtain⟨a,b,rfl⟩:=Kmw (by omega:l.length=2);exact .merge h3.symm (hs a (by simp)) (hs b (by simp))
abbrev tW (l:List UInt8):Tq:=(3,mkB l,0)
abbrev tM (l:List UInt8):Tq:=(4,mkB l,0)
abbrev tN (s:ByteArray):Tq:=(1,s,0)
def Kfg (k:Int) (t:List Tq):List Tq:=if k=1\/k=2\/k=3\/k=8\/k=9 then t else tM [40] :: (t ++ [tM [41]])
def Kdj (k n:Int) (s:ByteArray) (ts:List (List Tq)):List Tq:=
 if k=1 then [(2,Zn n,n)]
 else if k=2 then [if n=0 then tW [102,97,108,115,101] else tW [116,114,117,101]]
 else if k=4 then(if n=2 then tW [110,111,116] else tM [45]) :: ts.getD 0 []
 else if k=5 then ts.getD 0 [] ++ (4,Ja6 n,0) :: ts.getD 1 []
 else if k=6 then tW [105,102] :: (ts.getD 0 [] ++ tW [116,104,101,110] :: (ts.getD 1 [] ++ tW [101,108,115,101] :: ts.getD 2 []))
 else if k=7 then ts.getD 0 [] ++ tM [45,62] :: ts.getD 1 []
 else if k=8 then ts.getD 0 [] ++ [tW [119,104,101,110],tN s]
 else if k=9 then ts.getD 0 [] ++ [tW [117,110,108,101,115,115],tN s]
 else if k=10 then tW [109,101,114,103,101] :: tN s :: (ts.getD 0 [] ++ ts.getD 1 [])
 else [tN s]
namespace Ex
mutual
def toks:Ex->List Tq
 | mk k n s l=>Kdj k n s (toksL (k == 6) l)
def toksL (f:Bool):List Ex->List (List Tq)
 | []=>[]
 | x :: l=>(if f then toks x else Kfg x.kind (toks x)) :: toksL f l
end
def toksP (x:Ex):List Tq:=Kfg x.kind x.toks
end Ex
def Sep (s:List UInt8):Prop:=∃c r,s=c :: r/\(c=32\/c=41\/c=59\/c=10)
theorem Sep.stop {s:List UInt8} (h:Sep s):Khr s:=by
 obtain⟨c,r,rfl,h⟩:=h;intro d hd;simp at hd;subst hd
 rcases h with rfl|rfl|rfl|rfl <;> decide
theorem Sep.blank {s:List UInt8} : Sep (32 :: s):=⟨32,s,rfl,.inl rfl⟩
theorem Sep.shut {s:List UInt8} : Sep (41 :: s):=⟨41,s,rfl,.inr (.inl rfl)⟩
theorem Sep.semi {s:List UInt8} : Sep (59 :: s):=⟨59,s,rfl,.inr (.inr (.inl rfl))⟩
theorem Sep.line {s:List UInt8} : Sep (10 :: s):=⟨10,s,rfl,.inr (.inr (.inr rfl))⟩
theorem Kil (p:Int->Bool) (hp:∀n:Nat,128<=n->p (n:Int)=false) (s:ByteArray):∀f pos,s.size<f+pos->Zb p s f pos=s.size->∀i,pos<=i->(h:i<s.size)->(s[i]'h).toNat<128/\p ((s[i]'h).toNat:Int)=true
 | 0,pos,hf,_,i,hi,h=>by omega
 | f+1,pos,hf,he,i,hi,h=>by
  rw [Zb,if_pos (by omega)] at he;have am:pos<s.size:=by omega
  by_cases ha:(s[pos]'am).toNat<128
  ·rw [decode_ascii _ _ am ha] at he
   split at he
   ·rename_i hpp
    by_cases hip:i=pos
    ·subst hip;exact⟨ha,hpp⟩
    ·exact Kil p hp s f (pos+1) (by omega) he i (by omega) h
   ·omega
  ·have:=(decode_high s pos am (by omega)).1;rw [if_neg (by rw [hp _ this];simp)] at he;omega
theorem Kjd {s:ByteArray} (h:Kz s=true):Kjq s.toList/\Jdo s=false:=by
 unfold Kz at h
 split at h
 ·rename_i h0;simp only [Bool.and_eq_true,Bool.not_eq_true',decide_eq_true_eq] at h;obtain⟨⟨⟨h1,h2⟩,h3⟩,h4⟩:=h
  have eF:=Kil Q5 (fun n hn=>by
   simp only [Q5,Zh,Jbz,Bool.or_eq_false_iff,decide_eq_false_iff_not];omega) s (s.size+1) 0 (by omega) h3
  have iD:∀i (h:i<s.toList.length),∃h':i<s.size,s.toList[i]'h=s[i]'h':=by
   intro i h;have hl:s.toList.length=s.size:=by rw [ByteArray.toList_eq,Array.length_toList,ByteArray.size_data]
   refine⟨by omega,?_⟩
   have:∀l (e:l=s.data.toList) (h:i<l.length),l[i]'h=s[i]'(by subst e;simpa using h):=by
    intro l e h;subst e;rw [Array.getElem_toList];rfl
   exact this _ (ByteArray.toList_eq _) h
  refine⟨⟨?_,?_,.inr ?_⟩,h4⟩
  ·cases hs:s.toList with
   | nil=>
    have hl:s.toList.length=s.size:=by rw [ByteArray.toList_eq,Array.length_toList,ByteArray.size_data]
    rw [hs] at hl;simp at hl;omega
   | cons c t=>
    obtain⟨h',e⟩:=iD 0 (by rw [hs];simp);refine⟨c,t,rfl,?_⟩;simp only [hs,List.getElem_cons_zero] at e;rw [e];exact h2
  ·intro c hc;obtain⟨i,hi,rfl⟩:=List.getElem_of_mem hc;obtain⟨h',e⟩:=iD i hi;rw [e];exact eF i (Nat.zero_le _) h'
  ·have hl:s.toList.length=s.size:=by rw [ByteArray.toList_eq,Array.length_toList,ByteArray.size_data]
   omega
 ·simp at h
theorem LX.name {s:ByteArray} {r:List UInt8} {l:List Tq} (h:Kz s=true) (hs:Khr r) (hr:LX r l):LX (s.toList ++ r) (tN s :: l):=by
 have hw:=Kjd h;have:=LX.word hw.1 hs hr;rw [Khs,hw.2] at this;exact this
theorem LX.kw {b:List UInt8} {r:List UInt8} {l:List Tq} (h:Kjq b) (hw:Jdo (mkB b)=true) (hs:Khr r) (hr:LX r l):LX (b ++ r) (tW b :: l):=by
 have:=LX.word h hs hr;rw [hw] at this;exact this
theorem LX.sp {r:List UInt8} {l:List Tq} (hr:LX r l):LX (32 :: r) l:=LX.blank (by decide) hr
theorem LX.nl {r:List UInt8} {l:List Tq} (hr:LX r l):LX (10 :: r) l:=LX.blank (by decide) hr
theorem LX.alone {c:UInt8} {r:List UInt8} {l:List Tq} (h:Kep [c]=true) (hc:c=40\/c=41\/c=58\/c=59) (hr:LX r l):LX (c :: r) (tM [c] :: l):=by
 refine LX.one h (fun d _=>⟨?_,?_⟩) hr
 ·rcases hc with rfl|rfl|rfl|rfl <;> simp [Kep]
 ·rcases hc with rfl|rfl|rfl|rfl <;> simp
theorem LX.mark {n:Int} (h1:1<=n) (h2:n<=16) {r:List UInt8} {l:List Tq} (hr:LX r l):LX ((Ja6 n).toList ++ 32 :: r) ((4,Ja6 n,0) :: l):=by
 have one:∀c,Kep [c]=true->Kep [c,32]=false->LX ([c] ++ 32 :: r) ((4,mkB [c],0) :: l):=fun c h h'=>LX.one h (fun d hd=>by
  simp at hd;subst hd;exact⟨h',by simp⟩) hr.sp
 have two:∀c d,Kep [c,d]=true->LX ([c,d] ++ 32 :: r) ((4,mkB [c,d],0) :: l):=fun c d h=>LX.two h hr.sp;obtain h|h|h|h|h|h|h|h|h|h|h|h|h|h|h|h:n=1\/n=2\/n=3\/n=4\/n=5\/n=6\/n=7\/n=8\/n=9\/n=10\/n=11\/n=12\/n=13\/n=14\/n=15\/n=16:=by omega
 all_goals subst h
 ·rw [show Ja6 1=mkB [43] from rfl,Kde];exact one 43 (by decide) (by decide)
 ·rw [show Ja6 2=mkB [45] from rfl,Kde];exact one 45 (by decide) (by decide)
 ·rw [show Ja6 3=mkB [42] from rfl,Kde];exact one 42 (by decide) (by decide)
 ·rw [show Ja6 4=mkB [47] from rfl,Kde];exact one 47 (by decide) (by decide)
 ·rw [show Ja6 5=mkB [37] from rfl,Kde];exact one 37 (by decide) (by decide)
 ·rw [show Ja6 6=mkB [60,60] from rfl,Kde];exact two 60 60 (by decide)
 ·rw [show Ja6 7=mkB [62,62] from rfl,Kde];exact two 62 62 (by decide)
 ·rw [show Ja6 8=mkB [38] from rfl,Kde];exact one 38 (by decide) (by decide)
 ·rw [show Ja6 9=mkB [124] from rfl,Kde];exact one 124 (by decide) (by decide)
 ·rw [show Ja6 10=mkB [94] from rfl,Kde];exact one 94 (by decide) (by decide)
 ·rw [show Ja6 11=mkB [61] from rfl,Kde];exact one 61 (by decide) (by decide)
 ·rw [show Ja6 12=mkB [60,62] from rfl,Kde];exact two 60 62 (by decide)
 ·rw [show Ja6 13=mkB [60] from rfl,Kde];exact one 60 (by decide) (by decide)
 ·rw [show Ja6 14=mkB [60,61] from rfl,Kde];exact two 60 61 (by decide)
 ·rw [show Ja6 15=mkB [62] from rfl,Kde];exact one 62 (by decide) (by decide)
 ·rw [show Ja6 16=mkB [62,61] from rfl,Kde];exact two 62 61 (by decide)
end Go.Proofs.YtdgjplldlfeolaaGreatDoor
