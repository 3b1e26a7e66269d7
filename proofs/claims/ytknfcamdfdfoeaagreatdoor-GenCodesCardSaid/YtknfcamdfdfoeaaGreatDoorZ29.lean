/- Lemmas. -/
import Derived.Test.YtknfcamdfdfoeaaGreatDoorMac
import Derived.IntWalk
import Derived.Test.YtknfcamdfdfoeaaGreatDoorZ28
set_option linter.unusedVariables false
set_option linter.unusedSimpArgs false
set_option maxRecDepth 100000
set_option maxHeartbeats 64000000
namespace Go.Proofs.YtknfcamdfdfoeaaGreatDoor
open Go.RowKit Go.Sort
theorem Jzl (e:Ex) (hf:e.formed=true) (eI:e.size<=100000) (ih:RT e) (A:Option Addr) (cap:Nat) (w:World) (he:Jt w e A cap) (hk:e.kind=5) :
  Calls Tryz.prog 136 #[exV e A cap] w fun r w'=>r = .returned (.string e.showB)/\Below w.heap.size w w':=by
 have hl:=he.len;unfold maxLen at hl;obtain⟨bI,aD⟩:=hl;have bg:Jl e.kind e.n e.name e.sub.length=true:=U5;unfold Jl Jw at bg;rw [hk] at bg;simp at bg;have q1:(e.kind == 1)=false:=Ud;have q2:(e.kind == 2)=false:=Ud;have q3:(e.kind == 3)=false:=Ud;have q4:(e.kind == 4)=false:=Ud;have q5:(e.kind == 5)=true:=Ud;have eR:1<=e.n:=Ua;have eu:e.n<=16:=Ua;have xH:=Jhr e.n;have jf:=fun W=>Jyu e.n W Ua Ua;have hwr:IntKind.i64.wrap e.n=e.n:=IntWalk.i64_in _ Ua;have ai:e.sub.length=2:=Ua;obtain⟨x,y,aT⟩:=Jcn ai;have hx:e.sub[0]?=some x:=Ff;have mx:=List.mem_of_getElem? hx;obtain⟨sx1,sx2⟩:=Zp hf eI mx;have hy:e.sub[1]?=some y:=Ff;have my:=List.mem_of_getElem? hy;obtain⟨sy1,sy2⟩:=Zp hf eI my;obtain⟨b,off,X,cx,rfl,c0,c1,c2,c3,dT⟩:=he.get hx;obtain⟨b1,off1,Y,cy,ac,d0,d1,d2,d3,oN⟩:=he.get hy;simp only [Option.some.injEq,Addr.mk.injEq,and_true] at ac;obtain⟨rfl,rfl⟩:=ac;simp only [Nat.zero_mul,Nat.one_mul,Nat.add_zero] at c0 c1 c2 c3 d0 d1 d2 d3;have gt:b<w.heap.size:=block_lt_of_cell c0;have kH:b<w.heap.size+1:=Ua;have l0:0<e.sub.length:=Ua;have l1:1<e.sub.length:=Ua;have li1:(1:Int)<(e.sub.length:Int):=Ua;have px:=fun W h=>(ih x mx X cx W (dT.later h)).2;have py:=fun W h=>(ih y my Y cy W (oN.later h)).2;have hv:e.showB=x.partB ++ ⟨#[32]⟩ ++ Ja6 e.n ++ ⟨#[32]⟩ ++ y.partB:=Ld;clear hf ih hk aT ai bg hx mx hy my;unfold exV at *;generalize x.partB=t0 at *;generalize y.partB=t1 at *;generalize Ja6 e.n=mk at *;have z0:¬9223372036854775807<t0.size+1:=Ua;have z1:¬9223372036854775807<t0.size+1+mk.size:=Ua;have z2:¬9223372036854775807<t0.size+1+mk.size+1:=Ua;have z3:¬9223372036854775807<t0.size+1+mk.size+1+t1.size:=Ua;have HV:=Lib.hid hv;clear hv
 go_enter Tryz.func136,Tryz.ntmps136
 go_wp2_with fail
 refine Jx Ug Ug (fun bj=>?_)
 repeat (quiet_step ((first|(go_at_call_of 158 X;exact Calls.regrown_of (px _ Jb))|(go_at_call_of 158 Y;exact Calls.regrown_of (py _ Jb))|(go_at_call 159;exact Calls.regrown_of (jf _)))))
 refine wpQuiet_nil ?_;intro wq au;replace au:=qbo au;obtain⟨au,dA,bh⟩:=au;clear bj
 (try simp at bh)
 go_wp2_with fail
 go_ret;exact⟨Kk HV.out.symm,Jb⟩
theorem Jy7 (e:Ex) (hf:e.formed=true) (eI:e.size<=100000) (ih:RT e) (A:Option Addr) (cap:Nat) (w:World) (he:Jt w e A cap) (hk:e.kind=6) :
  Calls Tryz.prog 136 #[exV e A cap] w fun r w'=>r = .returned (.string e.showB)/\Below w.heap.size w w':=by
 have hl:=he.len;unfold maxLen at hl;obtain⟨bI,aD⟩:=hl;have bg:Jl e.kind e.n e.name e.sub.length=true:=U5;unfold Jl Jw at bg;rw [hk] at bg;simp at bg;have q1:(e.kind == 1)=false:=Ud;have q2:(e.kind == 2)=false:=Ud;have q3:(e.kind == 3)=false:=Ud;have q4:(e.kind == 4)=false:=Ud;have q5:(e.kind == 5)=false:=Ud;have q6:(e.kind == 6)=true:=Ud;have ai:e.sub.length=3:=Ua;obtain⟨x,y,z,aT⟩:=Jn6 ai;have hx:e.sub[0]?=some x:=Ff;have mx:=List.mem_of_getElem? hx;obtain⟨sx1,sx2⟩:=Zp hf eI mx;have hy:e.sub[1]?=some y:=Ff;have my:=List.mem_of_getElem? hy;obtain⟨sy1,sy2⟩:=Zp hf eI my;have hz:e.sub[2]?=some z:=Ff;have mz:=List.mem_of_getElem? hz;obtain⟨sz1,sz2⟩:=Zp hf eI mz;obtain⟨b,off,X,cx,rfl,c0,c1,c2,c3,dT⟩:=he.get hx;obtain⟨b1,off1,Y,cy,ac,d0,d1,d2,d3,oN⟩:=he.get hy;simp only [Option.some.injEq,Addr.mk.injEq,and_true] at ac;obtain⟨rfl,rfl⟩:=ac;obtain⟨b2,off2,Z,cz,aq,g0,g1,g2,g3,cE⟩:=he.get hz;simp only [Option.some.injEq,Addr.mk.injEq,and_true] at aq;obtain⟨rfl,rfl⟩:=aq;simp only [Nat.zero_mul,Nat.one_mul,Nat.add_zero] at c0 c1 c2 c3 d0 d1 d2 d3 g0 g1 g2 g3;have gt:b<w.heap.size:=block_lt_of_cell c0;have kH:b<w.heap.size+1:=Ua;have l0:0<e.sub.length:=Ua;have l1:1<e.sub.length:=Ua;have l2:2<e.sub.length:=Ua;have li1:(1:Int)<(e.sub.length:Int):=Ua;have li2:(2:Int)<(e.sub.length:Int):=Ua;have px:=fun W h=>(ih x mx X cx W (dT.later h)).1;have py:=fun W h=>(ih y my Y cy W (oN.later h)).1;have pz:=fun W h=>(ih z mz Z cz W (cE.later h)).1;have hv:e.showB=⟨#[105,102,32]⟩ ++ x.showB ++ ⟨#[32,116,104,101,110,32]⟩ ++ y.showB ++ ⟨#[32,101,108,115,101,32]⟩ ++ z.showB:=by rw [Ex.showB_eq,Ex.showL_map,aT,hk];simp [Ye]
 clear hf ih hk aT ai bg hx mx hy my hz mz;unfold exV at *;generalize x.showB=t0 at *;generalize y.showB=t1 at *;generalize z.showB=t2 at *;have z0:¬9223372036854775807<3+t0.size:=Ua;have z1:¬9223372036854775807<3+t0.size+6:=Ua;have z2:¬9223372036854775807<3+t0.size+6+t1.size:=Ua;have z3:¬9223372036854775807<3+t0.size+6+t1.size+6:=Ua;have z4:¬9223372036854775807<3+t0.size+6+t1.size+6+t2.size:=Ua;have HV:=Lib.hid hv;clear hv
 go_enter Tryz.func136,Tryz.ntmps136
 go_wp2_with fail
 refine Jx Ug Ug (fun bj=>?_)
 repeat (quiet_step ((first|(go_at_call_of 136 X;exact Calls.regrown_of (px _ Jb))|(go_at_call_of 136 Y;exact Calls.regrown_of (py _ Jb))|(go_at_call_of 136 Z;exact Calls.regrown_of (pz _ Jb)))))
 refine wpQuiet_nil ?_;intro wq au;replace au:=qbo au;obtain⟨au,dA,bh⟩:=au;clear bj
 (try simp at bh)
 go_wp2_with fail
 go_ret;exact⟨Kk HV.out.symm,Jb⟩
theorem Jy9 (e:Ex) (hf:e.formed=true) (eI:e.size<=100000) (ih:RT e) (A:Option Addr) (cap:Nat) (w:World) (he:Jt w e A cap) (hk:e.kind=7) :
  Calls Tryz.prog 136 #[exV e A cap] w fun r w'=>r = .returned (.string e.showB)/\Below w.heap.size w w':=by
 have hl:=he.len;unfold maxLen at hl;obtain⟨bI,aD⟩:=hl;have bg:Jl e.kind e.n e.name e.sub.length=true:=U5;unfold Jl Jw at bg;rw [hk] at bg;simp at bg;have q1:(e.kind == 1)=false:=Ud;have q2:(e.kind == 2)=false:=Ud;have q3:(e.kind == 3)=false:=Ud;have q4:(e.kind == 4)=false:=Ud;have q5:(e.kind == 5)=false:=Ud;have q6:(e.kind == 6)=false:=Ud;have q7:(e.kind == 7)=true:=Ud;have ai:e.sub.length=2:=Ua;obtain⟨x,y,aT⟩:=Jcn ai;have hx:e.sub[0]?=some x:=Ff;have mx:=List.mem_of_getElem? hx;obtain⟨sx1,sx2⟩:=Zp hf eI mx;have hy:e.sub[1]?=some y:=Ff;have my:=List.mem_of_getElem? hy;obtain⟨sy1,sy2⟩:=Zp hf eI my;obtain⟨b,off,X,cx,rfl,c0,c1,c2,c3,dT⟩:=he.get hx;obtain⟨b1,off1,Y,cy,ac,d0,d1,d2,d3,oN⟩:=he.get hy;simp only [Option.some.injEq,Addr.mk.injEq,and_true] at ac;obtain⟨rfl,rfl⟩:=ac;simp only [Nat.zero_mul,Nat.one_mul,Nat.add_zero] at c0 c1 c2 c3 d0 d1 d2 d3;have gt:b<w.heap.size:=block_lt_of_cell c0;have kH:b<w.heap.size+1:=Ua;have l0:0<e.sub.length:=Ua;have l1:1<e.sub.length:=Ua;have li1:(1:Int)<(e.sub.length:Int):=Ua;have px:=fun W h=>(ih x mx X cx W (dT.later h)).2;have py:=fun W h=>(ih y my Y cy W (oN.later h)).2;have hv:e.showB=x.partB ++ ⟨#[32,45,62,32]⟩ ++ y.partB:=Ld;clear hf ih hk aT ai bg hx mx hy my;unfold exV at *;generalize x.partB=t0 at *;generalize y.partB=t1 at *;have z0:¬9223372036854775807<t0.size+4:=Ua;have z1:¬9223372036854775807<t0.size+4+t1.size:=Ua;have HV:=Lib.hid hv;clear hv
 go_enter Tryz.func136,Tryz.ntmps136
 go_wp2_with fail
 refine Jx Ug Ug (fun bj=>?_)
 repeat (quiet_step ((first|(go_at_call_of 158 X;exact Calls.regrown_of (px _ Jb))|(go_at_call_of 158 Y;exact Calls.regrown_of (py _ Jb)))))
 refine wpQuiet_nil ?_;intro wq au;replace au:=qbo au;obtain⟨au,dA,bh⟩:=au;clear bj
 (try simp at bh)
 go_wp2_with fail
 go_ret;exact⟨Kk HV.out.symm,Jb⟩
theorem Jzg (e:Ex) (hf:e.formed=true) (eI:e.size<=100000) (ih:RT e) (A:Option Addr) (cap:Nat) (w:World) (he:Jt w e A cap) (hk:e.kind=8) :
  Calls Tryz.prog 136 #[exV e A cap] w fun r w'=>r = .returned (.string e.showB)/\Below w.heap.size w w':=by
 have hl:=he.len;unfold maxLen at hl;obtain⟨bI,aD⟩:=hl;have bg:Jl e.kind e.n e.name e.sub.length=true:=U5;unfold Jl Jw at bg;rw [hk] at bg;simp at bg;have q1:(e.kind == 1)=false:=Ud;have q2:(e.kind == 2)=false:=Ud;have q3:(e.kind == 3)=false:=Ud;have q4:(e.kind == 4)=false:=Ud;have q5:(e.kind == 5)=false:=Ud;have q6:(e.kind == 6)=false:=Ud;have q7:(e.kind == 7)=false:=Ud;have q8:(e.kind == 8)=true:=Ud;have aL:e.name.size<=16:=Jaf (by simp_all);have ai:e.sub.length=1:=Ua;obtain⟨x,aT⟩:=Jcd ai;have hx:e.sub[0]?=some x:=Ff;have mx:=List.mem_of_getElem? hx;obtain⟨sx1,sx2⟩:=Zp hf eI mx;obtain⟨b,off,X,cx,rfl,c0,c1,c2,c3,dT⟩:=he.get hx;simp only [Nat.zero_mul,Nat.one_mul,Nat.add_zero] at c0 c1 c2 c3;have gt:b<w.heap.size:=block_lt_of_cell c0;have kH:b<w.heap.size+1:=Ua;have l0:0<e.sub.length:=Ua;have px:=fun W h=>(ih x mx X cx W (dT.later h)).2;have hv:e.showB=x.partB ++ ⟨#[32,119,104,101,110,32]⟩ ++ e.name:=Ld;clear hf ih hk aT ai bg hx mx;unfold exV at *;generalize x.partB=t0 at *;have z0:¬9223372036854775807<t0.size+6:=Ua;have z1:¬9223372036854775807<t0.size+6+e.name.size:=Ua;have HV:=Lib.hid hv;clear hv
 go_enter Tryz.func136,Tryz.ntmps136
 go_wp2_with fail
 refine Jx Ug Ug (fun bj=>?_)
 repeat (quiet_step ((first|(go_at_call_of 158 X;exact Calls.regrown_of (px _ Jb)))))
 refine wpQuiet_nil ?_;intro wq au;replace au:=qbo au;obtain⟨au,dA,bh⟩:=au;clear bj
 (try simp at bh)
 go_wp2_with fail
 go_ret;exact⟨Kk HV.out.symm,Jb⟩
theorem Jy8 (e:Ex) (hf:e.formed=true) (eI:e.size<=100000) (ih:RT e) (A:Option Addr) (cap:Nat) (w:World) (he:Jt w e A cap) (hk:e.kind=9) :
  Calls Tryz.prog 136 #[exV e A cap] w fun r w'=>r = .returned (.string e.showB)/\Below w.heap.size w w':=by
 have hl:=he.len;unfold maxLen at hl;obtain⟨bI,aD⟩:=hl;have bg:Jl e.kind e.n e.name e.sub.length=true:=U5;unfold Jl Jw at bg;rw [hk] at bg;simp at bg;have q1:(e.kind == 1)=false:=Ud;have q2:(e.kind == 2)=false:=Ud;have q3:(e.kind == 3)=false:=Ud;have q4:(e.kind == 4)=false:=Ud;have q5:(e.kind == 5)=false:=Ud;have q6:(e.kind == 6)=false:=Ud;have q7:(e.kind == 7)=false:=Ud;have q8:(e.kind == 8)=false:=Ud;have q9:(e.kind == 9)=true:=Ud;have aL:e.name.size<=16:=Jaf (by simp_all);have ai:e.sub.length=1:=Ua;obtain⟨x,aT⟩:=Jcd ai;have hx:e.sub[0]?=some x:=Ff;have mx:=List.mem_of_getElem? hx;obtain⟨sx1,sx2⟩:=Zp hf eI mx;obtain⟨b,off,X,cx,rfl,c0,c1,c2,c3,dT⟩:=he.get hx;simp only [Nat.zero_mul,Nat.one_mul,Nat.add_zero] at c0 c1 c2 c3;have gt:b<w.heap.size:=block_lt_of_cell c0;have kH:b<w.heap.size+1:=Ua;have l0:0<e.sub.length:=Ua;have px:=fun W h=>(ih x mx X cx W (dT.later h)).2;have hv:e.showB=x.partB ++ ⟨#[32,117,110,108,101,115,115,32]⟩ ++ e.name:=Ld;clear hf ih hk aT ai bg hx mx;unfold exV at *;generalize x.partB=t0 at *;have z0:¬9223372036854775807<t0.size+8:=Ua;have z1:¬9223372036854775807<t0.size+8+e.name.size:=Ua;have HV:=Lib.hid hv;clear hv
 go_enter Tryz.func136,Tryz.ntmps136
 go_wp2_with fail
 refine Jx Ug Ug (fun bj=>?_)
 repeat (quiet_step ((first|(go_at_call_of 158 X;exact Calls.regrown_of (px _ Jb)))))
 refine wpQuiet_nil ?_;intro wq au;replace au:=qbo au;obtain⟨au,dA,bh⟩:=au;clear bj
 (try simp at bh)
 go_wp2_with fail
 go_ret;exact⟨Kk HV.out.symm,Jb⟩
theorem Jx2 (e:Ex) (hf:e.formed=true) (eI:e.size<=100000) (ih:RT e) (A:Option Addr) (cap:Nat) (w:World) (he:Jt w e A cap) (hk:e.kind=10) :
  Calls Tryz.prog 136 #[exV e A cap] w fun r w'=>r = .returned (.string e.showB)/\Below w.heap.size w w':=by
 have hl:=he.len;unfold maxLen at hl;obtain⟨bI,aD⟩:=hl;have bg:Jl e.kind e.n e.name e.sub.length=true:=U5;unfold Jl Jw at bg;rw [hk] at bg;simp at bg;have q1:(e.kind == 1)=false:=Ud;have q2:(e.kind == 2)=false:=Ud;have q3:(e.kind == 3)=false:=Ud;have q4:(e.kind == 4)=false:=Ud;have q5:(e.kind == 5)=false:=Ud;have q6:(e.kind == 6)=false:=Ud;have q7:(e.kind == 7)=false:=Ud;have q8:(e.kind == 8)=false:=Ud;have q9:(e.kind == 9)=false:=Ud;have aL:e.name.size<=16:=Jaf (by simp_all);have ai:e.sub.length=2:=Ua;obtain⟨x,y,aT⟩:=Jcn ai;have hx:e.sub[0]?=some x:=Ff;have mx:=List.mem_of_getElem? hx;obtain⟨sx1,sx2⟩:=Zp hf eI mx;have hy:e.sub[1]?=some y:=Ff;have my:=List.mem_of_getElem? hy;obtain⟨sy1,sy2⟩:=Zp hf eI my;obtain⟨b,off,X,cx,rfl,c0,c1,c2,c3,dT⟩:=he.get hx;obtain⟨b1,off1,Y,cy,ac,d0,d1,d2,d3,oN⟩:=he.get hy;simp only [Option.some.injEq,Addr.mk.injEq,and_true] at ac;obtain⟨rfl,rfl⟩:=ac;simp only [Nat.zero_mul,Nat.one_mul,Nat.add_zero] at c0 c1 c2 c3 d0 d1 d2 d3;have gt:b<w.heap.size:=block_lt_of_cell c0;have kH:b<w.heap.size+1:=Ua;have l0:0<e.sub.length:=Ua;have l1:1<e.sub.length:=Ua;have li1:(1:Int)<(e.sub.length:Int):=Ua;have px:=fun W h=>(ih x mx X cx W (dT.later h)).2;have py:=fun W h=>(ih y my Y cy W (oN.later h)).2;have hv:e.showB=⟨#[109,101,114,103,101,32]⟩ ++ e.name ++ ⟨#[32]⟩ ++ x.partB ++ ⟨#[32]⟩ ++ y.partB:=Ld;clear hf ih hk aT ai bg hx mx hy my;unfold exV at *;generalize x.partB=t0 at *;generalize y.partB=t1 at *;have z0:¬9223372036854775807<6+e.name.size:=Ua;have z1:¬9223372036854775807<6+e.name.size+1:=Ua;have z2:¬9223372036854775807<6+e.name.size+1+t0.size:=Ua;have z3:¬9223372036854775807<6+e.name.size+1+t0.size+1:=Ua;have z4:¬9223372036854775807<6+e.name.size+1+t0.size+1+t1.size:=Ua;have HV:=Lib.hid hv;clear hv
 go_enter Tryz.func136,Tryz.ntmps136
 go_wp2_with fail
 refine Jx Ug Ug (fun bj=>?_)
 repeat (quiet_step ((first|(go_at_call_of 158 X;exact Calls.regrown_of (px _ Jb))|(go_at_call_of 158 Y;exact Calls.regrown_of (py _ Jb)))))
 refine wpQuiet_nil ?_;intro wq au;replace au:=qbo au;obtain⟨au,dA,bh⟩:=au;clear bj
 (try simp at bh)
 go_wp2_with fail
 go_ret;exact⟨Kk HV.out.symm,Jb⟩
theorem Jhe (e:Ex):e.formed=true->e.size<=100000->∀(A:Option Addr) (cap:Nat) (w:World),Jt w e A cap->
  Calls Tryz.prog 136 #[exV e A cap] w fun r w'=>r = .returned (.string e.showB)/\Below w.heap.size w w':=by
 induction e using Ex.ind with
 | h e ih=>
 intro hf hz A cap w he
 have lm:RT e:=by
  intro x hx B c W hW;have h1:=Zp hf hz hx;obtain⟨k,hk⟩:=List.mem_iff_getElem?.1 hx;have h2:=Ex.size_sub hk;have ht:=fun W' h'=>ih x hx (Ex.formed_sub hf hx) Ua B c W' h';exact⟨ht W hW,Jwr Ua hW ht⟩
 rcases Jbc hf with hk|hk|hk|hk|hk|hk|hk|hk|hk|hk
 ·exact Jy6 e hf hz lm A cap w he hk
 ·exact Jy3 e hf hz lm A cap w he hk
 ·exact Jy5 e hf hz lm A cap w he hk
 ·have hn:e.n=1\/e.n=2:=by
   rw [Ex.formed_eq,Bool.and_eq_true] at hf;have bg:=hf.1;unfold Jl Jw at bg;rw [hk] at bg;simp at bg;omega
  rcases hn with hn|hn
  ·exact Jxe e hf hz lm A cap w he hk hn
  ·exact Jxa e hf hz lm A cap w he hk hn
 ·exact Jzl e hf hz lm A cap w he hk
 ·exact Jy7 e hf hz lm A cap w he hk
 ·exact Jy9 e hf hz lm A cap w he hk
 ·exact Jzg e hf hz lm A cap w he hk
 ·exact Jy8 e hf hz lm A cap w he hk
 ·exact Jx2 e hf hz lm A cap w he hk
end Go.Proofs.YtknfcamdfdfoeaaGreatDoor
