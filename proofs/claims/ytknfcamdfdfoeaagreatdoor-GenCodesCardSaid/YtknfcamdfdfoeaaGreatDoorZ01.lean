/- Lemmas. -/
import Derived.Test.YtknfcamdfdfoeaaGreatDoorMac
import Derived.Test.YtknfcamdfdfoeaaGreatDoorRows
import Derived.Test.YtknfcamdfdfoeaaGreatDoorZ00
import Derived.Laws.RangeAny
import Derived.WideShapes
import Derived.Laws.StructEq
set_option linter.unusedVariables false
set_option linter.unusedSimpArgs false
set_option maxRecDepth 100000
set_option maxHeartbeats 64000000
namespace Go.Proofs.YtknfcamdfdfoeaaGreatDoor
open Go.RowKit
def Zh (c:Int):Bool:=decide (97<=c/\c<=122)
def Jbz (c:Int):Bool:=decide (48<=c/\c<=57)
def Q5 (c:Int):Bool:=Zh c || Jbz c || decide (c=95)
theorem Jkp (c:Int) (w:World):Calls Tryz.prog 162 #[.int .i32 c] w fun r w'=>r = .returned (.bool (Zh c))/\w=w':=by
 unfold Zh
 by_cases h:97<=c
 ·go_enter Tryz.func162,Tryz.ntmps162
  exact Udb
 ·go_enter Tryz.func162,Tryz.ntmps162
  exact Udc
theorem Ju5 (c:Int) (w:World):Calls Tryz.prog 176 #[.int .i32 c] w fun r w'=>r = .returned (.bool (Jbz c))/\w=w':=by
 unfold Jbz
 by_cases h:48<=c
 ·go_enter Tryz.func176,Tryz.ntmps176
  exact Udb
 ·go_enter Tryz.func176,Tryz.ntmps176
  exact Udc
theorem Jm2 (c:Int) (w:World):Calls Tryz.prog 164 #[.int .i32 c] w fun r w'=>r = .returned (.bool (Q5 c))/\w=w':=by
 unfold Q5
 cases h:Zh c <;> cases h2:Jbz c <;>
 ·go_enter Tryz.func164,Tryz.ntmps164
  go_wp2_with (first|(go_at_call 162;refine(Jkp _ _).mono ?_;rintro r w1 ⟨rfl,rfl⟩)|(go_at_call 176;refine(Ju5 _ _).mono ?_;rintro r w1 ⟨rfl,rfl⟩))
  go_ret;exact⟨Jk (by first|rfl|(rw [Bool.eq_iff_iff];simp)),rfl⟩
def Jdo (s:ByteArray):Bool:=s.toList == [110,111,100,101] || s.toList == [114,101,116,117,114,110,115] || s.toList == [118,97,114] || s.toList == [108,101,116] || s.toList == [116,101,108] || s.toList == [105,102] || s.toList == [116,104,101,110] || s.toList == [101,108,115,101] || s.toList == [102,98,121] || s.toList == [112,114,101] || s.toList == [119,104,101,110] || s.toList == [117,110,108,101,115,115] || s.toList == [109,101,114,103,101] || s.toList == [110,111,116] || s.toList == [116,114,117,101] || s.toList == [102,97,108,115,101] || s.toList == [105,110,116] || s.toList == [98,111,111,108]
theorem Jwp (s:ByteArray) (w:World):Calls Tryz.prog 165 #[.string s] w fun r w'=>r = .returned (.bool (Jdo s))/\w=w':=by
 go_enter Tryz.func165,Tryz.ntmps165
 go_wp2_with fail
 all_goals first
  | (exfalso;simp_all;done)
  | (go_ret;exact⟨Jk (by simp [Jdo, *]),rfl⟩)
def Zb (p:Int->Bool) (s:ByteArray):Nat->Nat->Nat
 | 0,_=>s.size
 | fuel+1,pos=>if pos<s.size then(if p ((Utf8.decode s pos).1:Int) then Zb p s fuel (pos+(Utf8.decode s pos).2) else pos) else s.size
theorem Jqv (s:ByteArray) (pos:Nat):1<=(Utf8.decode s pos).2:=by
 simp only [Utf8.decode]
 repeat' split
 all_goals simp
theorem Jhm (s:ByteArray):s.extract 0 s.size=s:=by
 ext1;simp
theorem Jsk (s:ByteArray) (w:World) (hs:s.size<=maxLen):Calls Tryz.prog 163 #[.string s,.func (.func 164) #[] #[]] w fun r w'=>r = .returned (.string (s.extract 0 (Zb Q5 s (s.size+1) 0)))/\Below w.heap.size w w':=by
 unfold maxLen at hs
 go_enter Tryz.func163,Tryz.ntmps163
 go_wp2_with fail
 go_loopg [] (s.size+1) (fun k wr=>∃pos,s.size<k+pos/\Zb Q5 s k pos=Zb Q5 s (s.size+1) 0/\wr=w.iter s pos)
 case atStart=>exact⟨0,Ua,rfl,rfl⟩
 case round=>
  obtain⟨pos,hk,aa,rfl⟩:=hrel
  by_cases am:pos<s.size
  ·have qU:=fun ty=>run_next_any (P:=Tryz.prog) w s pos ty am;obtain⟨k,rfl⟩:∃k,gk=k+1:=⟨gk-1,Ua⟩;have cP:=Jqv s pos;rw [Zb,if_pos am] at aa;generalize (Utf8.decode s pos).1=rn at qU aa;generalize (Utf8.decode s pos).2=sz at qU aa cP
   cases hp:Q5 (rn:Int)
   ·rw [hp,if_neg Ul] at aa;have HR:=Lib.hid aa;clear aa
    go_wp2_with (go_at_call 164;refine(Jm2 _ _).mono ?_;rintro r w1 ⟨rfl,rfl⟩)
    go_ret;exact⟨by rw [<-HR.out];rfl,Jc (Below.refl _ _) _⟩
   ·rw [hp,if_pos rfl] at aa;have HR:=Lib.hid aa;clear aa
    go_wp2_with (go_at_call 164;refine(Jm2 _ _).mono ?_;rintro r w1 ⟨rfl,rfl⟩)
    go_roundg k
    case measure=>omega
    case rel=>exact⟨_,Ua,HR.out,rfl⟩
  ·have qU:=fun ty=>run_next_end (P:=Tryz.prog) w s pos ty am;have fa:Zb Q5 s gk pos=s.size:=by cases gk <;> simp [Zb,am]
   have HR:=Lib.hid (fa.symm.trans aa);clear aa fa
   go_wp2_with fail
   go_ret;exact⟨Kk (by rw [<-HR.out,Jhm]),Jc (Below.refl _ _) _⟩
def Kz (s:ByteArray):Bool:=if h:0<s.size then decide (s.size<=16) && Zh ((s[0]'h).toNat:Int) && decide (Zb Q5 s (s.size+1) 0=s.size) && !Jdo s else false
theorem Zf {a b:ByteArray} : (a.toList == b.toList)=true<->a=b:=by
 rw [beq_iff_eq,ByteArray.toList_eq,ByteArray.toList_eq];exact⟨fun h=>WideShapes.bytes_inj h,fun h=>Ti⟩
theorem Ju9 {a b:ByteArray} (h:a≠b):(a.toList == b.toList)=false:=by
 rw [<-Bool.not_eq_true,Zf];exact h
theorem Jmj (p:Int->Bool) (s:ByteArray):∀f pos,Zb p s f pos<=s.size
 | 0,_=>Nat.le_refl _
 | f+1,pos=>by
  unfold Zb
  split
  ·split
   ·exact Jmj p s f _
   ·exact Ua
  ·exact Nat.le_refl _
theorem Jfp {s:ByteArray} (h:0<s.size):s.toList.isEmpty=false:=by
 rw [ByteArray.toList_eq]
 cases h2:s.data.toList with
 | nil=>exfalso;rw [<-ByteArray.size_data,<-Array.length_toList,h2] at h;simp at h
 | cons=>rfl
theorem Je2 {s:ByteArray} (h:¬0<s.size):s=⟨#[]⟩:=by
 ext1;apply Array.eq_empty_of_size_eq_zero;rw [ByteArray.size_data];omega
theorem Jaf {s:ByteArray} (h:Kz s=true):s.size<=16:=by
 unfold Kz at h
 split at h
 ·simp at h;exact h.1.1.1
 ·exact Lt
theorem Qt (s:ByteArray) (w:World):Calls Tryz.prog 143 #[.string s] w fun r w'=>r = .returned (.bool (Kz s))/\Below w.heap.size w w':=by
 by_cases h0:0<s.size
 ·have he:=Jfp h0
  by_cases h1:s.size<=16
  ·have hb:s[0].toNat<256:=UInt8.toNat_lt _;have hv:Kz s=(Zh (s[0].toNat:Int) && decide (Zb Q5 s (s.size+1) 0=s.size) && !Jdo s):=Mi;have HV:=Lib.hid hv;clear hv
   have hx:((s.extract 0 (Zb Q5 s (s.size+1) 0)).toList == s.toList)=decide (Zb Q5 s (s.size+1) 0=s.size):=by
    by_cases h:Zb Q5 s (s.size+1) 0=s.size
    ·rw [h,Jhm];simp
    ·rw [decide_eq_false h];refine Ju9 fun e=>?_;have:=congrArg ByteArray.size e;rw [ByteArray.size_extract] at this;have:=Jmj Q5 s (s.size+1) 0;exact Ua
   cases h2:Zh (s[0].toNat:Int) <;> cases h3:decide (Zb Q5 s (s.size+1) 0=s.size) <;> rw [h3] at hx <;> cases h4:Jdo s <;>
   ·rw [h2,h3,h4] at HV
    go_enter Tryz.func143,Tryz.ntmps143
    go_wp2_with (first|(go_at_call 162;refine(Jkp _ _).mono ?_;rintro r w1 ⟨rfl,rfl⟩)|(go_at_call 163;refine(Jsk _ _ U2).mono ?_;rintro r w1 ⟨rfl,ac⟩)|(go_at_call 165;refine(Jwp _ _).mono ?_;rintro r w1 ⟨rfl,rfl⟩))
    go_ret;exact⟨Jk Vi,Jb⟩
  ·have hv:Kz s=false:=Mi;have HV:=Lib.hid hv;clear hv
   go_enter Tryz.func143,Tryz.ntmps143
   exact Ude
 ·have hv:Kz s=false:=by unfold Kz;rw [dif_neg h0]
  have HV:=Lib.hid hv;clear hv;obtain rfl:=Je2 h0
  go_enter Tryz.func143,Tryz.ntmps143
  exact Ude
def Jw (k:Int):Int×Int×Int×Bool×Bool:=
 if k=1 then(0,0,2147483647,false,true)
 else if k=2 then(0,0,1,false,true)
 else if k=3 then(0,0,0,true,true)
 else if k=4 then(1,1,2,false,true)
 else if k=5 then(2,1,16,false,true)
 else if k=6 then(3,0,0,false,true)
 else if k=7 then(2,0,0,false,true)
 else if k=8 then(1,0,0,true,true)
 else if k=9 then(1,0,0,true,true)
 else if k=10 then(2,0,0,true,true)
 else(0,0,0,false,false)
def Jl (k n:Int) (s:ByteArray) (len:Nat):Bool:=
 (Jw k).2.2.2.2 && ((len:Int) == (Jw k).1) && !decide (n<(Jw k).2.1) && !decide ((Jw k).2.2.1<n) && ((Jw k).2.2.2.1 == Kz s) && ((Jw k).2.2.2.1 || s.toList.isEmpty)
namespace Ex
mutual
def formed:Ex->Bool
 | mk k n s l=>Jl k n s l.length && formedL l
def formedL:List Ex->Bool
 | []=>true
 | x :: l=>formed x && formedL l
end
theorem formed_eq (e:Ex):e.formed=(Jl e.kind e.n e.name e.sub.length && formedL e.sub):=by cases e;simp [formed,kind,n,name,sub]
def right (e:Ex):Int:=
 if 120<e.count 121 then 3 else if 12<e.depth then 17 else if e.formed then 0 else 4
theorem right_zero {e:Ex} : e.right=0<->e.count 121<=120/\e.depth<=12/\e.formed=true:=by
 unfold right
 split
 ·exact Ua
 ·split
  ·exact Ua
  ·split
   ·rename_i h;simp [h];omega
   ·rename_i h;simp [h]
def literal (e:Ex):Bool:=
 if e.right=0 then
  if e.kind=4/\e.n=1 then(match e.sub with|x :: _=>x.kind == 1 | []=>false) else(e.kind == 1 || e.kind == 2)
 else false
mutual
def same:Ex->Ex->Bool
 | mk k n s l,y=>k == y.kind && n == y.n && s.toList == y.name.toList && l.length == y.sub.length && sameL l y.sub
def sameL:List Ex->List Ex->Bool
 | [],_=>true
 | _ :: _,[]=>true
 | x :: l,y :: m=>same x y && sameL l m
end
theorem same_eq (a b:Ex):same a b=(a.kind == b.kind && a.n == b.n && a.name.toList == b.name.toList && a.sub.length == b.sub.length && sameL a.sub b.sub):=by
 cases a;simp [same,kind,n,name,sub]
end Ex
def Ke (v:Va) (own:Bool):Bool:=
 Kz v.name && (v.type == 1 || v.type == 2) && (if v.ck=0 then v.cn.toList.isEmpty else if v.ck=1\/v.ck=2 then own && Kz v.cn else false)
def eqB (q:Qe):Bool:=
 Kz q.name && q.e.right == 0 && (if q.delay=1 then q.first.literal else if q.delay=0\/q.delay=2 then q.first.same Ex.zero else false)
def Qw (p:Pr):Bool:=
 Kz p.name && p.ins.all (Ke · false) && p.outs.all (Ke · false) && p.locals.all (Ke · true) && p.eqs.all eqB
def Xb:List Va->ByteArray->Option Va
 | [],_=>none
 | v :: l,s=>if (v.name.toList == s.toList)=true then some v else Xb l s
def K9 (a:Int) (s:ByteArray) (b:Int) (t:ByteArray):Bool:=a == b && s.toList == t.toList
def Jaw (l:List Va) (s:ByteArray) (ok:Bool):Int:=
 match Xb l s with
 | none=>19
 | some v=>if (ok && K9 v.ck v.cn 0 ⟨#[]⟩)=true then 0 else 21
def Jac (l:List Va) (k:Int) (s:ByteArray) (ck:Int) (cn:ByteArray):Int:=
 if k=3 then(match Xb l s with
  | none=>19
  | some v=>if K9 v.ck v.cn ck cn=true then 0 else 21)
 else if k=8 then Jaw l s (K9 ck cn 1 s)
 else if k=9 then Jaw l s (K9 ck cn 2 s)
 else if k=10 then Jaw l s (K9 ck cn 0 ⟨#[]⟩)
 else 0
def Jb3 (k:Int) (s:ByteArray) (c:Int×ByteArray):Int×ByteArray:=if k=8\/k=9 then(0,⟨#[]⟩) else if k=10 then(1,s) else c
def Ja0 (k:Int) (s:ByteArray) (c:Int×ByteArray):Int×ByteArray:=if k=8\/k=9 then(0,⟨#[]⟩) else if k=10 then(2,s) else c
namespace Ex
mutual
def clk (l:List Va):Ex->Int×ByteArray->Int
 | mk k _ s sub,c=>if Jac l k s c.1 c.2≠0 then Jac l k s c.1 c.2 else clkL l sub (Jb3 k s c) (Ja0 k s c)
def clkL (l:List Va):List Ex->Int×ByteArray->Int×ByteArray->Int
 | [],_,_=>0
 | x :: r,c,d=>if clk l x c≠0 then clk l x c else clkL l r d c
end
theorem clk_eq (l:List Va) (e:Ex) (c:Int×ByteArray):e.clk l c=if Jac l e.kind e.name c.1 c.2≠0 then Jac l e.kind e.name c.1 c.2 else clkL l e.sub (Jb3 e.kind e.name c) (Ja0 e.kind e.name c):=by cases e;rw [clk];rfl
end Ex
def Jhk (l:List Va) (e:Ex) (c:Int×ByteArray):Int:=if e.right≠0 then e.right else e.clk l c
def Yc (l:List Va) (v:Va):Int:=
 if K9 v.ck v.cn 0 ⟨#[]⟩=true then 0
 else match Xb l v.cn with
  | none=>19
  | some c=>if c.type≠2 then 20 else if K9 c.ck c.cn 0 ⟨#[]⟩=true then 0 else 21
theorem Jdg {a b:Int} {s t:ByteArray} : K9 a s b t=true<->a=b/\s.toList=t.toList:=by
 unfold K9;simp
namespace Ex
end Ex
theorem Jjj:∀ {l:List Ex},Ex.formedL l=true->∀x∈l,x.formed=true
 | [],_,x,hx=>by cases hx
 | y :: l,h,x,hx=>by
  simp only [Ex.formedL,Bool.and_eq_true] at h
  rcases List.mem_cons.1 hx with rfl|hx
  ·exact h.1
  ·exact Jjj h.2 x hx
theorem Jh0 {e:Ex} (h:e.formed=true):(e.kind=3\/e.kind=8\/e.kind=9\/e.kind=10)/\Kz e.name=true\/(e.kind≠3/\e.kind≠8/\e.kind≠9/\e.kind≠10)/\e.name.toList.isEmpty=true:=by
 rw [Ex.formed_eq] at h;unfold Jl Jw at h;generalize e.kind=k at *
 by_cases h1:k=1
 ·subst h1;simp at h ⊢;simp_all
 by_cases h2:k=2
 ·subst h2;simp at h ⊢;simp_all
 by_cases h3:k=3
 ·subst h3;simp at h ⊢;simp_all
 by_cases h4:k=4
 ·subst h4;simp at h ⊢;simp_all
 by_cases h5:k=5
 ·subst h5;simp at h ⊢;simp_all
 by_cases h6:k=6
 ·subst h6;simp at h ⊢;simp_all
 by_cases h7:k=7
 ·subst h7;simp at h ⊢;simp_all
 by_cases h8:k=8
 ·subst h8;simp at h ⊢;simp_all
 by_cases h9:k=9
 ·subst h9;simp at h ⊢;simp_all
 by_cases bM:k=10
 ·subst bM;simp at h ⊢;simp_all
 simp [h1,h2,h3,h4,h5,h6,h7,h8,h9,bM] at h
theorem Q9 {e:Ex} (h:e.formed=true):∀x∈e.sub,x.formed=true:=by
 rw [Ex.formed_eq,Bool.and_eq_true] at h;exact Jjj h.2
theorem Jfj {e:Ex} (h:e.formed=true) (hk:e.kind=10):e.sub.length=2:=by
 exact Ucp
theorem Jbx {s:ByteArray} (h:Kz s=true):s.toList.isEmpty=false:=by
 cases hs:s.toList.isEmpty with
 | false=>rfl
 | true=>
  exfalso
  have h0:s.toList = []:=Mx
  have h1:s.size=0:=by
   have:=congrArg List.length h0;rw [ByteArray.toList_eq] at this;simpa using this
  unfold Kz at h;rw [dif_neg Ua] at h
  cases h
theorem Jej {a b:ByteArray} (h:a.toList=b.toList):a=b:=Zf.1 (by rw [h];simp)
theorem Jem:∀ {l:List Va} {s:ByteArray} {v:Va},Xb l s=some v->v∈l/\v.name.toList=s.toList
 | [],s,v,h=>by simp [Xb] at h
 | u :: l,s,v,h=>by
  rw [Xb] at h
  split at h
  ·rename_i hn;obtain rfl:u=v:=by injection h
   exact⟨Ul,by simpa using hn⟩
  ·obtain⟨h1,h2⟩:=Jem h;exact⟨by simp [h1],h2⟩
end Go.Proofs.YtknfcamdfdfoeaaGreatDoor
namespace Go.Proofs.YtknfcamdfdfoeaaGreatDoor
open Go.RowKit Go.Sort
theorem Zt (a:Int) (s:ByteArray) (b:Int) (t:ByteArray) (w:World):(Op.equalIn 10000 55 (.agg #[.int .i64 a,.string s]) (.agg #[.int .i64 b,.string t])).run Tryz.prog w = .ok (K9 a s b t) w:=by
 have hS:Tryz.prog.underlying 55=some (.struct (Tryz.prog.fieldsOf 55)):=Ug;have hp:Tryz.prog.stoodInHeld 55=false:=Ug;rw [show(10000:Nat)=9999+1 from rfl,run_equalIn_agg w 9999 55 _ _ hS hp];simp only [Program.fieldsOf,Tryz.underlying55];go_simp;unfold K9
 by_cases h1:a=b <;> by_cases h2:s.toList=t.toList <;> simp [h1,h2]
theorem Jbt:Tryz.prog.eqGuardType Tryz.prog.depth 55=false:=Ug
def Jh8:Va:=⟨⟨#[]⟩,0,0,⟨#[]⟩⟩
def fcV:Option Va->Value
 | some v=> .tuple #[vaV v,.bool true]
 | none=> .tuple #[vaV Jh8,.bool false]
theorem Jg9 (l:List Va) (A:Option Addr) (cap:Nat) (s:ByteArray) (w:World) (hl:Ju w l A cap) (hn:l.length<=1000000) :
  Calls Tryz.prog 77 #[.slice A l.length cap,.string s] w fun r w'=>r = .returned (fcV (Xb l s))/\Below w.heap.size w w':=by
 have hv:fcV (Xb l s)=fcV (Xb l s):=rfl;clear hv
 go_enter Tryz.func77,Tryz.ntmps77
 go_wp2_with fail
 refine Jo fun W0 ag=>?_;have ax:Below w.heap.size w W0:=Uo;have bD:w.heap.size<W0.heap.size:=La;have f0:W0.cell? ⟨w.heap.size,0,none⟩=some (.string ⟨#[]⟩):=Uc;have f1:W0.cell? ⟨w.heap.size,1,none⟩=some (.int .i64 0):=Uc;have f2:W0.cell? ⟨w.heap.size,2,none⟩=some (.int .i64 0):=Uc;have f3:W0.cell? ⟨w.heap.size,3,none⟩=some (.string ⟨#[]⟩):=Uc;have z0:W0.frozen? ⟨w.heap.size,0,none⟩=false:=Uc;have z1:W0.frozen? ⟨w.heap.size,1,none⟩=false:=Uc;have z2:W0.frozen? ⟨w.heap.size,2,none⟩=false:=Uc;have z3:W0.frozen? ⟨w.heap.size,3,none⟩=false:=Uc;clear ag;replace hl:=hl.later ax
 go_loopw [10] (fun i wr=>∃k:Nat,k<=l.length/\i = .int .i64 k/\Xb (l.drop k) s=Xb l s/\Below W0.heap.size W0 wr) (fun i _=>l.length-(intOf i).toNat)
 case atStart=>exact⟨0,Nat.zero_le _,rfl,rfl,Below.refl _ _⟩
 case round=>
  obtain⟨k,hk,rfl,aa,ab⟩:=hrel;have hc:=Jg ab;have eh:=Jf ab;have bu:=ab.size;have fF:w.heap.size<wr.heap.size:=Ua
  by_cases am:k<l.length
  ·obtain⟨x,hx,-,hd⟩:=Kl am;obtain⟨b,off,rfl,aH,⟨d0,d1,d2,d3⟩⟩:=(hl.later ab).get hx;rw [hd,Xb] at aa;clear hd hx
   cases dj:(x.name.toList == s.toList)
   ·rw [dj,if_neg Ul] at aa;have HR:=Lib.hid aa;clear aa
    go_wp2_with fail
    exact Uc5
   ·rw [dj,if_pos rfl] at aa;have HR:=Lib.hid aa;clear aa
    go_wp2_with fail
    refine bodyPost_ret (v:= .tuple #[.agg #[.string x.name,.int .i64 x.type,.int .i64 x.ck,.string x.cn],.bool true]) (by simp [results,Tryz.results77,go_sem, *]) rfl ⟨by rw [<-HR.out];rfl,?_⟩;exact Km
  obtain rfl:k=l.length:=Ua;rw [List.drop_length,Xb] at aa;have HR:=Lib.hid aa;clear aa
  go_wp2_with fail
  refine bodyPost_ret (v:= .tuple #[.agg #[.string ⟨#[]⟩,.int .i64 0,.int .i64 0,.string ⟨#[]⟩],.bool false]) (by simp [results,Tryz.results77,go_sem, *]) rfl ⟨by rw [<-HR.out];rfl,?_⟩;exact Km
structure Ql (w:World):Prop where
 c0:w.cell? ⟨0,0,none⟩=some (.int .i64 0)
 c1:w.cell? ⟨0,1,none⟩=some (.string ⟨#[]⟩)
theorem Ql.later {w w':World} (h:Ql w) (hb:Below w.heap.size w w'):Ql w':=⟨Ja hb h.c0,Ja hb h.c1⟩
theorem Jhu (l:List Va) (A:Option Addr) (cap:Nat) (s:ByteArray) (ok:Bool) (w:World) (hg:Ql w) (hl:Ju w l A cap) (hn:l.length<=1000000) :
  Calls Tryz.prog 113 #[.slice A l.length cap,.string s,.bool ok] w fun r w'=>r = .returned (.int .i64 (Jaw l s ok))/\Below w.heap.size w w':=by
 have ap:=fun W h=>Jg9 l A cap s W (hl.later h) hn;have hv:Jaw l s ok=Jaw l s ok:=rfl;rw (occs:= .pos [2]) [Jaw] at hv;obtain⟨a0,a1⟩:=hg;have eC:0<w.heap.size:=block_lt_of_cell a0
 cases hf:Xb l s with
 | none=>
  rw [hf] at hv ap;clear hf;have HV:=Lib.hid hv;clear hv;unfold fcV vaV Jh8 at ap;dsimp only at ap
  go_enter Tryz.func113,Tryz.ntmps113
  go_wp2_with (first|(go_at_call 77;refine(ap _ Jb).mono ?_;rintro r w1 ⟨rfl,ac⟩;have ⟨ak,af⟩:=aft ac;(try simp at af);(try have go:0<w1.heap.size:=by omega)))
  go_ret;exact⟨Jm HV.out.symm,Jb⟩
 | some v=>
  rw [hf] at hv ap;clear hf;unfold fcV vaV at ap;dsimp only at ap hv;have fM:=Jbt;have dp:=fun w=>Zt v.ck v.cn 0 ⟨#[]⟩ w
  cases ok
  ·rw [Bool.false_and,if_neg Ul] at hv;have HV:=Lib.hid hv;clear hv
   go_enter Tryz.func113,Tryz.ntmps113
   exact Ue9
  ·cases hq:K9 v.ck v.cn 0 ⟨#[]⟩
   ·rw [hq] at hv dp;rw [Bool.and_false,if_neg Ul] at hv;exact Ue8
   ·rw [hq] at hv dp;rw [Bool.and_true,if_pos rfl] at hv;exact Ue8
end Go.Proofs.YtknfcamdfdfoeaaGreatDoor
