/- Lemmas. -/
import Derived.Test.YtknfcamdfdfoeaaGreatDoorMac
import Derived.Test.YtknfcamdfdfoeaaGreatDoorZ21
set_option linter.unusedVariables false
set_option linter.unusedSimpArgs false
set_option maxRecDepth 100000
set_option maxHeartbeats 64000000
namespace Go.Proofs.YtknfcamdfdfoeaaGreatDoor
open Go.RowKit
section
variable (sl:ByteArray->Int) (fl:Int×ByteArray->Int) (L:List Va)
theorem Jis (v:Va):∀(l:List Va) (i:Nat),Yh sl i (l ++ [v])=Yh sl i l ++ [(6,((i+l.length:Nat):Int)),(3,sl v.name)]
 | [],i=>by simp [Yh]
 | u :: l,i=>by rw [List.cons_append,Yh,Yh,Jis v l (i+1),Nl,List.append_assoc,show i+1+l.length=i+(l.length+1) from by omega]
theorem Jnd (q:Qe):∀(l:List Qe) (i:Nat),Zx sl i (l ++ [q])=Zx sl i l ++ [(4,((i+l.length:Nat):Int)),(3,sl q.name)]
 | [],i=>by simp [Zx]
 | u :: l,i=>by rw [List.cons_append,Zx,Zx,Jnd q l (i+1),Nl,List.append_assoc,show i+1+l.length=i+(l.length+1) from by omega]
theorem Jmv (q:Qe):∀(l:List Qe) (i:Nat),Zu sl fl L i (l ++ [q])=Zu sl fl L i l ++ Qk sl (J9 L q.name) (q.e.gen sl fl (J9 L q.name) ++ [(5,((i+l.length:Nat):Int))])
 | [],i=>by simp [Zu]
 | u :: l,i=>by rw [List.cons_append,Zu,Zu,Jmv q l (i+1),Nl,List.append_assoc,show i+1+l.length=i+(l.length+1) from by omega]
theorem Jnj (c:Ce):∀(l:List Ce) (i:Nat),Ze sl i (l ++ [c])=Ze sl i l ++ Qk sl (c.ck,c.cn) [(1,1),(5,((i+l.length:Nat):Int))]
 | [],i=>by simp [Ze]
 | u :: l,i=>by rw [List.cons_append,Ze,Ze,Jnj c l (i+1),Nl,List.append_assoc,show i+1+l.length=i+(l.length+1) from by omega]
theorem Jhy (v:Va):∀(l:List Va) (i:Nat),Xl sl i (l ++ [v])=Xl sl i l ++ [(2,sl v.name),(7,((i+l.length:Nat):Int))]
 | [],i=>by simp [Xl]
 | u :: l,i=>by rw [List.cons_append,Xl,Xl,Jhy v l (i+1),Nl,List.append_assoc,show i+1+l.length=i+(l.length+1) from by omega]
theorem Jif (eqs:List Qe) (j:Int):∀l:List Int,Xd sl fl L eqs (l ++ [j])=Xd sl fl L eqs l ++ Xd sl fl L eqs [j]
 | []=>by simp [Xd]
 | u :: l=>by
   rw [List.cons_append,Xd,Jif eqs j l];conv=>rhs;rw [Xd];rw [List.append_assoc]
theorem Jpr (eqs:List Qe) (k:Nat) (q:Qe) (h:eqs[k]?=some q):Xd sl fl L eqs [(k:Int)]=Qk sl (J9 L q.name) (q.e.gen sl fl (J9 L q.name) ++ [(3,sl q.name)]):=by
 rw [Xd,Xd,show((k:Int)).toNat=k from by omega,h,List.append_nil]
theorem Jb0 (c:Int×ByteArray) (x:List (Int×Int)):(Qk sl c x).length<=x.length+3:=by
 unfold Qk
 repeat' split
 all_goals simp
theorem Je4:∀(l:List Va) (i:Nat),(Yh sl i l).length=2 * l.length
 | [],i=>rfl
 | u :: l,i=>by rw [Yh,Nk,Je4 l (i+1),Nl];simp;omega
theorem Jkf:∀(l:List Qe) (i:Nat),(Zx sl i l).length=2 * l.length
 | [],i=>rfl
 | u :: l,i=>by rw [Zx,Nk,Jkf l (i+1),Nl];simp;omega
theorem Jhh:∀(l:List Va) (i:Nat),(Xl sl i l).length=2 * l.length
 | [],i=>rfl
 | u :: l,i=>by rw [Xl,Nk,Jhh l (i+1),Nl];simp;omega
theorem Jko:∀(l:List Qe) (i:Nat),(∀q∈l,∀c,(q.e.gen sl fl c).length<=360)->(Zu sl fl L i l).length<=364 * l.length
 | [],i,_=>by simp [Zu]
 | u :: l,i,h=>by
  have h1:=Jko l (i+1) fun q hq=>h q (by simp [hq]);have h2:=Jb0 sl (J9 L u.name) (u.e.gen sl fl (J9 L u.name) ++ [(5,(i:Int))]);have h3:=h u Ul (J9 L u.name);rw [Zu,Nk,Nl];simp only [Nk,Nl,Nm] at h2;exact Ua
theorem Jkc:∀(l:List Ce) (i:Nat),(Ze sl i l).length<=5 * l.length
 | [],i=>by simp [Ze]
 | u :: l,i=>by
  have h1:=Jkc l (i+1);have h2:=Jb0 sl (u.ck,u.cn) [(1,1),(5,(i:Int))];rw [Ze,Nk,Nl];simp only [Nl,Nm] at h2;exact Ua
theorem Jhf (eqs:List Qe) (h:∀q∈eqs,∀c,(q.e.gen sl fl c).length<=360):∀l:List Int,(Xd sl fl L eqs l).length<=364 * l.length
 | []=>by simp [Xd]
 | j :: l=>by
  have h1:=Jhf eqs h l;rw [Xd,Nk,Nl]
  cases hq:eqs[j.toNat]? with
  | none=>simp;omega
  | some q=>
   have h2:=Jb0 sl (J9 L q.name) (q.e.gen sl fl (J9 L q.name) ++ [(3,sl q.name)]);have h3:=h q (Ni hq) (J9 L q.name);simp only [Nk,Nl,Nm] at h2;simp only;omega
end
theorem Jo4 (l:List Qe) (q:Qe):J0 (l ++ [q])=J0 l ++ (if (q.delay != 0)=true then [q] else []):=by
 unfold J0;rw [List.filter_append]
 congr 1
 rw [List.filter_cons]
 split <;> simp_all
end Go.Proofs.YtknfcamdfdfoeaaGreatDoor
