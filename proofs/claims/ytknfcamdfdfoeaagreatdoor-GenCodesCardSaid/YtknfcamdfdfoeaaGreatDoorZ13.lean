/- Lemmas. -/
import Derived.Test.YtknfcamdfdfoeaaGreatDoorMac
import Derived.Test.YtknfcamdfdfoeaaGreatDoorZ06
import Derived.Test.YtknfcamdfdfoeaaGreatDoorZ10
import Derived.Test.YtknfcamdfdfoeaaGreatDoorZ09
import Derived.Test.YtknfcamdfdfoeaaGreatDoorZ12
import Derived.Test.YtknfcamdfdfoeaaGreatDoorZ08
set_option linter.unusedVariables false
set_option linter.unusedSimpArgs false
set_option maxRecDepth 100000
set_option maxHeartbeats 64000000
namespace Go.Proofs.YtknfcamdfdfoeaaGreatDoor
open Go.RowKit Go.Sort
theorem Jqk (e:Ex) (A:Option Addr) (cap:Nat) (w:World) (he:Jt w e A cap) :
  Calls Tryz.prog 146 #[exV e A cap] w fun r w'=>r = .returned (.bool e.literal)/\Below w.heap.size w w':=by
 have hl:=he.len;unfold maxLen at hl;obtain⟨bI,aD⟩:=hl;have hv:e.literal=if e.right=0 then(if e.kind=4/\e.n=1 then(match e.sub with|x :: _=>x.kind == 1 | []=>false) else(e.kind == 1 || e.kind == 2)) else false:=rfl;have aB:=fun W h=>Jnc e A cap W (he.later h);unfold exV at aB ⊢
 cases h1:(e.right != 0)
 case true=>
  rw [if_neg (by intro h;rw [h] at h1;simp at h1)] at hv;have HV:=Lib.hid hv;clear hv
  go_enter Tryz.func146,Tryz.ntmps146
  go_wp2_with (first|(go_at_call 145;refine(aB _ Jb).mono ?_;rintro r w1 ⟨rfl,ac⟩;have ⟨ak,af⟩:=aft ac;(try simp at af)))
  go_ret;exact⟨Jk HV.out.symm,Jb⟩
 have eV:=Jei h1;rw [if_pos eV] at hv
 cases h2:(e.kind == 4)
 case false=>
  rw [if_neg (by rintro⟨h,_⟩;rw [h] at h2;simp at h2)] at hv
  cases h3:(e.kind == 1)
  case true=>
   rw [h3,Bool.true_or] at hv;exact Ua7
  rw [h3,Bool.false_or] at hv;exact Ua7
 have iA:=Jbf h2
 cases h4:(e.n == 1)
 case false=>
  rw [if_neg (by rintro⟨_,h⟩;rw [h] at h4;simp at h4),iA] at hv;clear eV iA;have h5:(e.kind == 1)=false:=by rw [Jbf h2];rfl
  replace hv:e.literal=false:=by rw [hv];rfl
  have HV:=Lib.hid hv;clear hv
  go_enter Tryz.func146,Tryz.ntmps146
  go_wp2_with (first|(go_at_call 145;refine(aB _ Jb).mono ?_;rintro r w1 ⟨rfl,ac⟩;have ⟨ak,af⟩:=aft ac;(try simp at af)))
  go_ret;exact⟨Jk (by rw [HV.out,Jbf h2];rfl),Jb⟩
 rw [if_pos ⟨iA,Jbf h4⟩] at hv;have hf:=(Ex.right_zero.1 eV).2.2;rw [Ex.formed_eq,Jl,iA] at hf
 have ai:e.sub.length=1:=by
  simp only [Jw,Bool.and_eq_true] at hf;have:=Jbf hf.1.1.1.1.1.2;simp at this;omega
 clear hf;have hx:e.sub[0]?=some e.sub[0]:=List.getElem?_eq_getElem Ua;generalize e.sub[0]=x at hx
 have aT:e.sub = [x]:=by
  generalize e.sub=l at ai hx
  match l,ai,hx with
  | [y],_,h=>simp at h;rw [h]
 rw [aT] at hv;obtain⟨b,off,A',cap',rfl,c0,c1,c2,c3,hs⟩:=he.get hx;have ax:=block_lt_of_cell c0;dsimp only at ax;have hb0':b<w.heap.size+1:=Ua;have hlen':0<e.sub.length:=Ua;simp only [Nat.zero_mul,Nat.add_zero] at c0;clear eV iA hx ai c1 c2 c3;have HS:=Lib.hid aT;clear aT;have HV:=Lib.hid hv;clear hv
 go_enter Tryz.func146,Tryz.ntmps146
 go_wp2_with (first|(go_at_call 145;refine(aB _ Jb).mono ?_;rintro r w1 ⟨rfl,ac⟩;have ⟨ak,af⟩:=aft ac;(try simp at af)))
 go_ret;exact⟨Jk HV.out.symm,Jb⟩
theorem Je0 (v:Va) (own:Bool) (w:World) :
  Calls Tryz.prog 144 #[vaV v,.bool own] w fun r w'=>r = .returned (.bool (Ke v own))/\Below w.heap.size w w':=by
 unfold Ke vaV
 cases h1:Kz v.name
 ·go_enter Tryz.func144,Tryz.ntmps144
  go_wp2_with (first|(go_at_call 143;refine(Qt _ _).mono ?_;rintro r w1 ⟨rfl,ac⟩;have ⟨ak,af⟩:=aft ac;(try simp at af)))
  all_goals (go_ret;exact⟨Jk rfl,Jb⟩)
 cases h2:Kz v.cn <;> cases own <;>
 ·go_enter Tryz.func144,Tryz.ntmps144
  go_wp2_with (first|(go_at_call 143;refine(Qt _ _).mono ?_;rintro r w1 ⟨rfl,ac⟩;have ⟨ak,af⟩:=aft ac;(try simp at af)))
  all_goals (first|(exfalso;simp_all;done)|(go_ret;exact⟨Jk (by simp_all),Jb⟩)|go_ways)
def Jch (q:Qe):Bool:=if q.delay=1 then q.first.literal else if q.delay=0\/q.delay=2 then q.first.same Ex.zero else false
theorem Juw (q:Qe):eqB q=(Kz q.name && q.e.right == 0 && Jch q):=rfl
theorem Jvg (w:World):Jt w Ex.zero none 0:=by simp [Jt,Ex.zero]
theorem Ju2 (p:Pr) (a:PrA) (w:World) (hp:Kr w p a) :
  Calls Tryz.prog 128 #[prV p a] w fun r w'=>r = .returned (.bool (Qw p))/\Below w.heap.size w w':=by
 have bI:=hp.ins.len;have aD:=hp.outs.len;have fD:=hp.locals.len;have cG:=hp.eqs.len;unfold maxLen at bI aD fD cG;obtain⟨bI,iw⟩:=bI;obtain⟨aD,cI⟩:=aD;obtain⟨fD,kV⟩:=fD;obtain⟨cG,sS⟩:=cG;obtain⟨A1,c1,A2,c2,A3,c3,A4,c4⟩:=a;unfold prV;dsimp only at *
 go_enter Tryz.func128,Tryz.ntmps128
 go_wp2_with (first|(go_at_call 143;refine(Qt _ _).mono ?_;rintro r w1 ⟨rfl,ac⟩;have ⟨ak,af⟩:=aft ac;(try simp at af);(try have bV:=lt0 w w1);(try have gq:=ltA w 1 w1);(try have ow:=ltA w 2 w1);(try have ns:=lt0 wr w1);(try have nt:=ltA wr 1 w1)))
 refine Jo fun W0 ag=>?_;have ax:Below w.heap.size w W0:=Uo;have bD:w.heap.size<W0.heap.size:=by rw [ag];first|omega|(simp;omega)
 have k1:W0.cell? ⟨w.heap.size,1,none⟩=some (.slice A1 p.ins.length c1):=Uc;have k2:W0.cell? ⟨w.heap.size,2,none⟩=some (.slice A2 p.outs.length c2):=Uc;have k3:W0.cell? ⟨w.heap.size,3,none⟩=some (.slice A3 p.locals.length c3):=Uc;have k4:W0.cell? ⟨w.heap.size,4,none⟩=some (.slice A4 p.eqs.length c4):=Uc;clear ag;have pp:=hp.later ax;obtain⟨ii,gL,ip,bT⟩:=pp;dsimp only at ii gL ip bT;have hl:(Kz p.name && (p.ins.drop 0).all (Ke · false))=(Kz p.name && p.ins.all (Ke · false)):=rfl;have HL:=Lib.hid hl;clear hl
 go_loopw [3,18] (fun o i wr=>∃(k:Nat) (b1:Bool),k<=p.ins.length/\i = .int .i64 k/\o = .bool b1/\(b1 && (p.ins.drop k).all (Ke · false))=(Kz p.name && p.ins.all (Ke · false))/\Below W0.heap.size W0 wr) (fun _ i _=>p.ins.length-(intOf i).toNat)
 case atStart=>exact⟨0,_,Nat.zero_le _,rfl,rfl,HL.out,F6⟩
 case round=>
 obtain⟨k,b1,hk,rfl,rfl,aa,ab⟩:=hrel;have hc:=Jg ab;have bu:=ab.size
 by_cases am:k<p.ins.length
 ·obtain⟨x,hx,-,hd⟩:=Kl am;obtain⟨b,off,rfl,aH,⟨d0,d1,d2,d3⟩⟩:=(ii.later ab).get hx;rw [hd,List.all_cons] at aa;have dE:=fun W=>Je0 x false W;unfold vaV at dE
  cases b1
  ·exact Ubp
  ·rw [Bool.true_and] at aa;have HR:=Lib.hid aa;clear aa hd hx
   go_wp2_with (first|(go_at_call 144;refine(dE _).mono ?_;rintro r w1 ⟨rfl,ac⟩;have ⟨ak,af⟩:=aft ac;(try simp at af);(try have bV:=lt0 w w1);(try have gq:=ltA w 1 w1);(try have ow:=ltA w 2 w1);(try have ns:=lt0 wr w1);(try have nt:=ltA wr 1 w1)))
   go_roundw
   case rel=>exact⟨k+1,Ke x false,Ua,Up,rfl,HR.out,Jb⟩
   case measure=>simp [intOf];omega
 have bk:k=p.ins.length:=Ua;rw [bk,List.drop_length,List.all_nil,Bool.and_true] at aa;clear bk;have HX1:=Lib.hid aa;clear aa
 go_wp2_with fail
 have hl:(b1 && (p.outs.drop 0).all (Ke · false))=(b1 && p.outs.all (Ke · false)):=rfl;have HL:=Lib.hid hl;clear hl
 go_loopw [3,31] (fun o i wr=>∃(k:Nat) (b2:Bool),k<=p.outs.length/\i = .int .i64 k/\o = .bool b2/\(b2 && (p.outs.drop k).all (Ke · false))=(b1 && p.outs.all (Ke · false))/\Below W0.heap.size W0 wr) (fun _ i _=>p.outs.length-(intOf i).toNat)
 case atStart=>exact⟨0,_,Nat.zero_le _,rfl,rfl,HL.out,F6⟩
 case round=>
 obtain⟨k,b2,hk,rfl,rfl,aa,ab⟩:=hrel;have hc:=Jg ab;have bu:=ab.size
 by_cases am:k<p.outs.length
 ·obtain⟨x,hx,-,hd⟩:=Kl am;obtain⟨b,off,rfl,aH,⟨d0,d1,d2,d3⟩⟩:=(gL.later ab).get hx;rw [hd,List.all_cons] at aa;have dE:=fun W=>Je0 x false W;unfold vaV at dE
  cases b2
  ·exact Ubp
  ·rw [Bool.true_and] at aa;have HR:=Lib.hid aa;clear aa hd hx
   go_wp2_with (first|(go_at_call 144;refine(dE _).mono ?_;rintro r w1 ⟨rfl,ac⟩;have ⟨ak,af⟩:=aft ac;(try simp at af);(try have bV:=lt0 w w1);(try have gq:=ltA w 1 w1);(try have ow:=ltA w 2 w1);(try have ns:=lt0 wr w1);(try have nt:=ltA wr 1 w1)))
   go_roundw
   case rel=>exact⟨k+1,Ke x false,Ua,Up,rfl,HR.out,Jb⟩
   case measure=>simp [intOf];omega
 have bk:k=p.outs.length:=Ua;rw [bk,List.drop_length,List.all_nil,Bool.and_true] at aa;clear bk;have HX2:=Lib.hid aa;clear aa
 go_wp2_with fail
 have hl:(b2 && (p.locals.drop 0).all (Ke · true))=(b2 && p.locals.all (Ke · true)):=rfl;have HL:=Lib.hid hl;clear hl
 go_loopw [3,44] (fun o i wr=>∃(k:Nat) (b3:Bool),k<=p.locals.length/\i = .int .i64 k/\o = .bool b3/\(b3 && (p.locals.drop k).all (Ke · true))=(b2 && p.locals.all (Ke · true))/\Below W0.heap.size W0 wr) (fun _ i _=>p.locals.length-(intOf i).toNat)
 case atStart=>exact⟨0,_,Nat.zero_le _,rfl,rfl,HL.out,F6⟩
 case round=>
 obtain⟨k,b3,hk,rfl,rfl,aa,ab⟩:=hrel;have hc:=Jg ab;have bu:=ab.size
 by_cases am:k<p.locals.length
 ·obtain⟨x,hx,-,hd⟩:=Kl am;obtain⟨b,off,rfl,aH,⟨d0,d1,d2,d3⟩⟩:=(ip.later ab).get hx;rw [hd,List.all_cons] at aa;have dE:=fun W=>Je0 x true W;unfold vaV at dE
  cases b3
  ·exact Ubp
  ·rw [Bool.true_and] at aa;have HR:=Lib.hid aa;clear aa hd hx
   go_wp2_with (first|(go_at_call 144;refine(dE _).mono ?_;rintro r w1 ⟨rfl,ac⟩;have ⟨ak,af⟩:=aft ac;(try simp at af);(try have bV:=lt0 w w1);(try have gq:=ltA w 1 w1);(try have ow:=ltA w 2 w1);(try have ns:=lt0 wr w1);(try have nt:=ltA wr 1 w1)))
   go_roundw
   case rel=>exact⟨k+1,Ke x true,Ua,Up,rfl,HR.out,Jb⟩
   case measure=>simp [intOf];omega
 have bk:k=p.locals.length:=Ua;rw [bk,List.drop_length,List.all_nil,Bool.and_true] at aa;clear bk;have HX3:=Lib.hid aa;clear aa
 have hl:(b3 && (p.eqs.drop 0).all eqB)=Qw p:=by
  rw [HX3.out,HX2.out,HX1.out];rfl
 have HL:=Lib.hid hl;clear hl
 go_wp2_with fail
 go_loopw [3,57] (fun o i wr=>∃(k:Nat) (b4:Bool),k<=p.eqs.length/\i = .int .i64 k/\o = .bool b4/\(b4 && (p.eqs.drop k).all eqB)=Qw p/\Below W0.heap.size W0 wr) (fun _ i _=>p.eqs.length-(intOf i).toNat)
 case atStart=>exact⟨0,_,Nat.zero_le _,rfl,rfl,HL.out,F6⟩
 case round=>
 obtain⟨k,b4,hk,rfl,rfl,aa,ab⟩:=hrel;have hc:=Jg ab;have bu:=ab.size
 by_cases am:k<p.eqs.length
 ·obtain⟨q,hx,-,hd⟩:=Kl am;obtain⟨b,off,B1,n1,B2,n2,rfl,aH,⟨g0,g1,g2,g3,g4,g5,g6,g7,g8,g9,s1,s2⟩⟩:=(bT.later ab).get hx;rw [hd,List.all_cons,Juw] at aa;have aB:=fun W h=>Jnc q.e B2 n2 W (s2.later h);have cU:=fun W h=>Jqk q.first B1 n1 W (s1.later h);have bF:=fun W h=>Jw3 q.first Ex.zero B1 n1 none 0 W (s1.later h) (Jvg _);unfold exV at aB cU bF;unfold Ex.zero at bF;simp only [Ex.kind,Ex.n,Ex.name,Ex.sub,List.length_nil] at bF
  by_cases q1:q.delay=1
  ·have q1':(q.delay == 1)=true:=by simp [q1]
   have ek:Jch q=q.first.literal:=by unfold Jch;rw [if_pos q1]
   clear q1;rw [ek] at aa
   cases b4
   ·replace aa:(false && (List.drop (k+1) p.eqs).all eqB)=Qw p:=Vg;have HR:=Lib.hid aa;clear aa hd hx
    go_wp2_with (first|(go_at_call 143;refine(Qt _ _).mono ?_;rintro r w1 ⟨rfl,ac⟩;have ⟨ak,af⟩:=aft ac;(try simp at af);(try have bV:=lt0 w w1);(try have gq:=ltA w 1 w1);(try have ow:=ltA w 2 w1);(try have ns:=lt0 wr w1);(try have nt:=ltA wr 1 w1))|(go_at_call 145;refine(aB _ Jb).mono ?_;rintro r w1 ⟨rfl,ac⟩;have ⟨ak,af⟩:=aft ac;(try simp at af);(try have bV:=lt0 w w1);(try have gq:=ltA w 1 w1);(try have ow:=ltA w 2 w1);(try have ns:=lt0 wr w1);(try have nt:=ltA wr 1 w1))|(go_at_call 146;refine(cU _ Jb).mono ?_;rintro r w1 ⟨rfl,ac⟩;have ⟨ak,af⟩:=aft ac;(try simp at af);(try have bV:=lt0 w w1);(try have gq:=ltA w 1 w1);(try have ow:=ltA w 2 w1);(try have ns:=lt0 wr w1);(try have nt:=ltA wr 1 w1))|(go_at_call 147;refine(bF _ Jb).mono ?_;rintro r w1 ⟨rfl,ac⟩;have ⟨ak,af⟩:=aft ac;(try simp at af);(try have bV:=lt0 w w1);(try have gq:=ltA w 1 w1);(try have ow:=ltA w 2 w1);(try have ns:=lt0 wr w1);(try have nt:=ltA wr 1 w1)))
    exact Ueg
   cases hn:Kz q.name
   ·rw [hn] at aa;replace aa:(false && (List.drop (k+1) p.eqs).all eqB)=Qw p:=Vg;have HR:=Lib.hid aa;clear aa hd hx
    go_wp2_with (first|(go_at_call 143;refine(Qt _ _).mono ?_;rintro r w1 ⟨rfl,ac⟩;have ⟨ak,af⟩:=aft ac;(try simp at af);(try have bV:=lt0 w w1);(try have gq:=ltA w 1 w1);(try have ow:=ltA w 2 w1);(try have ns:=lt0 wr w1);(try have nt:=ltA wr 1 w1))|(go_at_call 145;refine(aB _ Jb).mono ?_;rintro r w1 ⟨rfl,ac⟩;have ⟨ak,af⟩:=aft ac;(try simp at af);(try have bV:=lt0 w w1);(try have gq:=ltA w 1 w1);(try have ow:=ltA w 2 w1);(try have ns:=lt0 wr w1);(try have nt:=ltA wr 1 w1))|(go_at_call 146;refine(cU _ Jb).mono ?_;rintro r w1 ⟨rfl,ac⟩;have ⟨ak,af⟩:=aft ac;(try simp at af);(try have bV:=lt0 w w1);(try have gq:=ltA w 1 w1);(try have ow:=ltA w 2 w1);(try have ns:=lt0 wr w1);(try have nt:=ltA wr 1 w1))|(go_at_call 147;refine(bF _ Jb).mono ?_;rintro r w1 ⟨rfl,ac⟩;have ⟨ak,af⟩:=aft ac;(try simp at af);(try have bV:=lt0 w w1);(try have gq:=ltA w 1 w1);(try have ow:=ltA w 2 w1);(try have ns:=lt0 wr w1);(try have nt:=ltA wr 1 w1)))
    exact Ueg
   cases hr:(q.e.right == 0)
   ·rw [hn,hr] at aa;replace aa:(false && (List.drop (k+1) p.eqs).all eqB)=Qw p:=Vg;have HR:=Lib.hid aa;clear aa hd hx
    go_wp2_with (first|(go_at_call 143;refine(Qt _ _).mono ?_;rintro r w1 ⟨rfl,ac⟩;have ⟨ak,af⟩:=aft ac;(try simp at af);(try have bV:=lt0 w w1);(try have gq:=ltA w 1 w1);(try have ow:=ltA w 2 w1);(try have ns:=lt0 wr w1);(try have nt:=ltA wr 1 w1))|(go_at_call 145;refine(aB _ Jb).mono ?_;rintro r w1 ⟨rfl,ac⟩;have ⟨ak,af⟩:=aft ac;(try simp at af);(try have bV:=lt0 w w1);(try have gq:=ltA w 1 w1);(try have ow:=ltA w 2 w1);(try have ns:=lt0 wr w1);(try have nt:=ltA wr 1 w1))|(go_at_call 146;refine(cU _ Jb).mono ?_;rintro r w1 ⟨rfl,ac⟩;have ⟨ak,af⟩:=aft ac;(try simp at af);(try have bV:=lt0 w w1);(try have gq:=ltA w 1 w1);(try have ow:=ltA w 2 w1);(try have ns:=lt0 wr w1);(try have nt:=ltA wr 1 w1))|(go_at_call 147;refine(bF _ Jb).mono ?_;rintro r w1 ⟨rfl,ac⟩;have ⟨ak,af⟩:=aft ac;(try simp at af);(try have bV:=lt0 w w1);(try have gq:=ltA w 1 w1);(try have ow:=ltA w 2 w1);(try have ns:=lt0 wr w1);(try have nt:=ltA wr 1 w1)))
    exact Ueg
   rw [hn,hr] at aa;replace aa:(q.first.literal && (List.drop (k+1) p.eqs).all eqB)=Qw p:=Mb;have HR:=Lib.hid aa;clear aa hd hx
   go_wp2_with (first|(go_at_call 143;refine(Qt _ _).mono ?_;rintro r w1 ⟨rfl,ac⟩;have ⟨ak,af⟩:=aft ac;(try simp at af);(try have bV:=lt0 w w1);(try have gq:=ltA w 1 w1);(try have ow:=ltA w 2 w1);(try have ns:=lt0 wr w1);(try have nt:=ltA wr 1 w1))|(go_at_call 145;refine(aB _ Jb).mono ?_;rintro r w1 ⟨rfl,ac⟩;have ⟨ak,af⟩:=aft ac;(try simp at af);(try have bV:=lt0 w w1);(try have gq:=ltA w 1 w1);(try have ow:=ltA w 2 w1);(try have ns:=lt0 wr w1);(try have nt:=ltA wr 1 w1))|(go_at_call 146;refine(cU _ Jb).mono ?_;rintro r w1 ⟨rfl,ac⟩;have ⟨ak,af⟩:=aft ac;(try simp at af);(try have bV:=lt0 w w1);(try have gq:=ltA w 1 w1);(try have ow:=ltA w 2 w1);(try have ns:=lt0 wr w1);(try have nt:=ltA wr 1 w1))|(go_at_call 147;refine(bF _ Jb).mono ?_;rintro r w1 ⟨rfl,ac⟩;have ⟨ak,af⟩:=aft ac;(try simp at af);(try have bV:=lt0 w w1);(try have gq:=ltA w 1 w1);(try have ow:=ltA w 2 w1);(try have ns:=lt0 wr w1);(try have nt:=ltA wr 1 w1)))
   exact Ueg
  by_cases q0:q.delay=0
  ·have q0':(q.delay == 0)=true:=by simp [q0]
   have ek:Jch q=q.first.same Ex.zero:=by unfold Jch;rw [if_neg q1,if_pos (.inl q0)]
   clear q0;rw [ek] at aa
   cases b4
   ·replace aa:(false && (List.drop (k+1) p.eqs).all eqB)=Qw p:=Vg;have HR:=Lib.hid aa;clear aa hd hx
    go_wp2_with (first|(go_at_call 143;refine(Qt _ _).mono ?_;rintro r w1 ⟨rfl,ac⟩;have ⟨ak,af⟩:=aft ac;(try simp at af);(try have bV:=lt0 w w1);(try have gq:=ltA w 1 w1);(try have ow:=ltA w 2 w1);(try have ns:=lt0 wr w1);(try have nt:=ltA wr 1 w1))|(go_at_call 145;refine(aB _ Jb).mono ?_;rintro r w1 ⟨rfl,ac⟩;have ⟨ak,af⟩:=aft ac;(try simp at af);(try have bV:=lt0 w w1);(try have gq:=ltA w 1 w1);(try have ow:=ltA w 2 w1);(try have ns:=lt0 wr w1);(try have nt:=ltA wr 1 w1))|(go_at_call 146;refine(cU _ Jb).mono ?_;rintro r w1 ⟨rfl,ac⟩;have ⟨ak,af⟩:=aft ac;(try simp at af);(try have bV:=lt0 w w1);(try have gq:=ltA w 1 w1);(try have ow:=ltA w 2 w1);(try have ns:=lt0 wr w1);(try have nt:=ltA wr 1 w1))|(go_at_call 147;refine(bF _ Jb).mono ?_;rintro r w1 ⟨rfl,ac⟩;have ⟨ak,af⟩:=aft ac;(try simp at af);(try have bV:=lt0 w w1);(try have gq:=ltA w 1 w1);(try have ow:=ltA w 2 w1);(try have ns:=lt0 wr w1);(try have nt:=ltA wr 1 w1)))
    exact Ueg
   cases hn:Kz q.name
   ·rw [hn] at aa;replace aa:(false && (List.drop (k+1) p.eqs).all eqB)=Qw p:=Vg;have HR:=Lib.hid aa;clear aa hd hx
    go_wp2_with (first|(go_at_call 143;refine(Qt _ _).mono ?_;rintro r w1 ⟨rfl,ac⟩;have ⟨ak,af⟩:=aft ac;(try simp at af);(try have bV:=lt0 w w1);(try have gq:=ltA w 1 w1);(try have ow:=ltA w 2 w1);(try have ns:=lt0 wr w1);(try have nt:=ltA wr 1 w1))|(go_at_call 145;refine(aB _ Jb).mono ?_;rintro r w1 ⟨rfl,ac⟩;have ⟨ak,af⟩:=aft ac;(try simp at af);(try have bV:=lt0 w w1);(try have gq:=ltA w 1 w1);(try have ow:=ltA w 2 w1);(try have ns:=lt0 wr w1);(try have nt:=ltA wr 1 w1))|(go_at_call 146;refine(cU _ Jb).mono ?_;rintro r w1 ⟨rfl,ac⟩;have ⟨ak,af⟩:=aft ac;(try simp at af);(try have bV:=lt0 w w1);(try have gq:=ltA w 1 w1);(try have ow:=ltA w 2 w1);(try have ns:=lt0 wr w1);(try have nt:=ltA wr 1 w1))|(go_at_call 147;refine(bF _ Jb).mono ?_;rintro r w1 ⟨rfl,ac⟩;have ⟨ak,af⟩:=aft ac;(try simp at af);(try have bV:=lt0 w w1);(try have gq:=ltA w 1 w1);(try have ow:=ltA w 2 w1);(try have ns:=lt0 wr w1);(try have nt:=ltA wr 1 w1)))
    exact Ueg
   cases hr:(q.e.right == 0)
   ·rw [hn,hr] at aa;replace aa:(false && (List.drop (k+1) p.eqs).all eqB)=Qw p:=Vg;have HR:=Lib.hid aa;clear aa hd hx
    go_wp2_with (first|(go_at_call 143;refine(Qt _ _).mono ?_;rintro r w1 ⟨rfl,ac⟩;have ⟨ak,af⟩:=aft ac;(try simp at af);(try have bV:=lt0 w w1);(try have gq:=ltA w 1 w1);(try have ow:=ltA w 2 w1);(try have ns:=lt0 wr w1);(try have nt:=ltA wr 1 w1))|(go_at_call 145;refine(aB _ Jb).mono ?_;rintro r w1 ⟨rfl,ac⟩;have ⟨ak,af⟩:=aft ac;(try simp at af);(try have bV:=lt0 w w1);(try have gq:=ltA w 1 w1);(try have ow:=ltA w 2 w1);(try have ns:=lt0 wr w1);(try have nt:=ltA wr 1 w1))|(go_at_call 146;refine(cU _ Jb).mono ?_;rintro r w1 ⟨rfl,ac⟩;have ⟨ak,af⟩:=aft ac;(try simp at af);(try have bV:=lt0 w w1);(try have gq:=ltA w 1 w1);(try have ow:=ltA w 2 w1);(try have ns:=lt0 wr w1);(try have nt:=ltA wr 1 w1))|(go_at_call 147;refine(bF _ Jb).mono ?_;rintro r w1 ⟨rfl,ac⟩;have ⟨ak,af⟩:=aft ac;(try simp at af);(try have bV:=lt0 w w1);(try have gq:=ltA w 1 w1);(try have ow:=ltA w 2 w1);(try have ns:=lt0 wr w1);(try have nt:=ltA wr 1 w1)))
    exact Ueg
   rw [hn,hr] at aa;replace aa:(q.first.same Ex.zero && (List.drop (k+1) p.eqs).all eqB)=Qw p:=Mb;have HR:=Lib.hid aa;clear aa hd hx
   go_wp2_with (first|(go_at_call 143;refine(Qt _ _).mono ?_;rintro r w1 ⟨rfl,ac⟩;have ⟨ak,af⟩:=aft ac;(try simp at af);(try have bV:=lt0 w w1);(try have gq:=ltA w 1 w1);(try have ow:=ltA w 2 w1);(try have ns:=lt0 wr w1);(try have nt:=ltA wr 1 w1))|(go_at_call 145;refine(aB _ Jb).mono ?_;rintro r w1 ⟨rfl,ac⟩;have ⟨ak,af⟩:=aft ac;(try simp at af);(try have bV:=lt0 w w1);(try have gq:=ltA w 1 w1);(try have ow:=ltA w 2 w1);(try have ns:=lt0 wr w1);(try have nt:=ltA wr 1 w1))|(go_at_call 146;refine(cU _ Jb).mono ?_;rintro r w1 ⟨rfl,ac⟩;have ⟨ak,af⟩:=aft ac;(try simp at af);(try have bV:=lt0 w w1);(try have gq:=ltA w 1 w1);(try have ow:=ltA w 2 w1);(try have ns:=lt0 wr w1);(try have nt:=ltA wr 1 w1))|(go_at_call 147;refine(bF _ Jb).mono ?_;rintro r w1 ⟨rfl,ac⟩;have ⟨ak,af⟩:=aft ac;(try simp at af);(try have bV:=lt0 w w1);(try have gq:=ltA w 1 w1);(try have ow:=ltA w 2 w1);(try have ns:=lt0 wr w1);(try have nt:=ltA wr 1 w1)))
   exact Ueg
  by_cases q2:q.delay=2
  ·have q2':(q.delay == 2)=true:=by simp [q2]
   have ek:Jch q=q.first.same Ex.zero:=by unfold Jch;rw [if_neg q1,if_pos (.inr q2)]
   clear q2;rw [ek] at aa
   cases b4
   ·replace aa:(false && (List.drop (k+1) p.eqs).all eqB)=Qw p:=Vg;have HR:=Lib.hid aa;clear aa hd hx
    go_wp2_with (first|(go_at_call 143;refine(Qt _ _).mono ?_;rintro r w1 ⟨rfl,ac⟩;have ⟨ak,af⟩:=aft ac;(try simp at af);(try have bV:=lt0 w w1);(try have gq:=ltA w 1 w1);(try have ow:=ltA w 2 w1);(try have ns:=lt0 wr w1);(try have nt:=ltA wr 1 w1))|(go_at_call 145;refine(aB _ Jb).mono ?_;rintro r w1 ⟨rfl,ac⟩;have ⟨ak,af⟩:=aft ac;(try simp at af);(try have bV:=lt0 w w1);(try have gq:=ltA w 1 w1);(try have ow:=ltA w 2 w1);(try have ns:=lt0 wr w1);(try have nt:=ltA wr 1 w1))|(go_at_call 146;refine(cU _ Jb).mono ?_;rintro r w1 ⟨rfl,ac⟩;have ⟨ak,af⟩:=aft ac;(try simp at af);(try have bV:=lt0 w w1);(try have gq:=ltA w 1 w1);(try have ow:=ltA w 2 w1);(try have ns:=lt0 wr w1);(try have nt:=ltA wr 1 w1))|(go_at_call 147;refine(bF _ Jb).mono ?_;rintro r w1 ⟨rfl,ac⟩;have ⟨ak,af⟩:=aft ac;(try simp at af);(try have bV:=lt0 w w1);(try have gq:=ltA w 1 w1);(try have ow:=ltA w 2 w1);(try have ns:=lt0 wr w1);(try have nt:=ltA wr 1 w1)))
    exact Ueg
   cases hn:Kz q.name
   ·rw [hn] at aa;replace aa:(false && (List.drop (k+1) p.eqs).all eqB)=Qw p:=Vg;have HR:=Lib.hid aa;clear aa hd hx
    go_wp2_with (first|(go_at_call 143;refine(Qt _ _).mono ?_;rintro r w1 ⟨rfl,ac⟩;have ⟨ak,af⟩:=aft ac;(try simp at af);(try have bV:=lt0 w w1);(try have gq:=ltA w 1 w1);(try have ow:=ltA w 2 w1);(try have ns:=lt0 wr w1);(try have nt:=ltA wr 1 w1))|(go_at_call 145;refine(aB _ Jb).mono ?_;rintro r w1 ⟨rfl,ac⟩;have ⟨ak,af⟩:=aft ac;(try simp at af);(try have bV:=lt0 w w1);(try have gq:=ltA w 1 w1);(try have ow:=ltA w 2 w1);(try have ns:=lt0 wr w1);(try have nt:=ltA wr 1 w1))|(go_at_call 146;refine(cU _ Jb).mono ?_;rintro r w1 ⟨rfl,ac⟩;have ⟨ak,af⟩:=aft ac;(try simp at af);(try have bV:=lt0 w w1);(try have gq:=ltA w 1 w1);(try have ow:=ltA w 2 w1);(try have ns:=lt0 wr w1);(try have nt:=ltA wr 1 w1))|(go_at_call 147;refine(bF _ Jb).mono ?_;rintro r w1 ⟨rfl,ac⟩;have ⟨ak,af⟩:=aft ac;(try simp at af);(try have bV:=lt0 w w1);(try have gq:=ltA w 1 w1);(try have ow:=ltA w 2 w1);(try have ns:=lt0 wr w1);(try have nt:=ltA wr 1 w1)))
    exact Ueg
   cases hr:(q.e.right == 0)
   ·rw [hn,hr] at aa;replace aa:(false && (List.drop (k+1) p.eqs).all eqB)=Qw p:=Vg;have HR:=Lib.hid aa;clear aa hd hx
    go_wp2_with (first|(go_at_call 143;refine(Qt _ _).mono ?_;rintro r w1 ⟨rfl,ac⟩;have ⟨ak,af⟩:=aft ac;(try simp at af);(try have bV:=lt0 w w1);(try have gq:=ltA w 1 w1);(try have ow:=ltA w 2 w1);(try have ns:=lt0 wr w1);(try have nt:=ltA wr 1 w1))|(go_at_call 145;refine(aB _ Jb).mono ?_;rintro r w1 ⟨rfl,ac⟩;have ⟨ak,af⟩:=aft ac;(try simp at af);(try have bV:=lt0 w w1);(try have gq:=ltA w 1 w1);(try have ow:=ltA w 2 w1);(try have ns:=lt0 wr w1);(try have nt:=ltA wr 1 w1))|(go_at_call 146;refine(cU _ Jb).mono ?_;rintro r w1 ⟨rfl,ac⟩;have ⟨ak,af⟩:=aft ac;(try simp at af);(try have bV:=lt0 w w1);(try have gq:=ltA w 1 w1);(try have ow:=ltA w 2 w1);(try have ns:=lt0 wr w1);(try have nt:=ltA wr 1 w1))|(go_at_call 147;refine(bF _ Jb).mono ?_;rintro r w1 ⟨rfl,ac⟩;have ⟨ak,af⟩:=aft ac;(try simp at af);(try have bV:=lt0 w w1);(try have gq:=ltA w 1 w1);(try have ow:=ltA w 2 w1);(try have ns:=lt0 wr w1);(try have nt:=ltA wr 1 w1)))
    exact Ueg
   rw [hn,hr] at aa;replace aa:(q.first.same Ex.zero && (List.drop (k+1) p.eqs).all eqB)=Qw p:=Mb;have HR:=Lib.hid aa;clear aa hd hx
   go_wp2_with (first|(go_at_call 143;refine(Qt _ _).mono ?_;rintro r w1 ⟨rfl,ac⟩;have ⟨ak,af⟩:=aft ac;(try simp at af);(try have bV:=lt0 w w1);(try have gq:=ltA w 1 w1);(try have ow:=ltA w 2 w1);(try have ns:=lt0 wr w1);(try have nt:=ltA wr 1 w1))|(go_at_call 145;refine(aB _ Jb).mono ?_;rintro r w1 ⟨rfl,ac⟩;have ⟨ak,af⟩:=aft ac;(try simp at af);(try have bV:=lt0 w w1);(try have gq:=ltA w 1 w1);(try have ow:=ltA w 2 w1);(try have ns:=lt0 wr w1);(try have nt:=ltA wr 1 w1))|(go_at_call 146;refine(cU _ Jb).mono ?_;rintro r w1 ⟨rfl,ac⟩;have ⟨ak,af⟩:=aft ac;(try simp at af);(try have bV:=lt0 w w1);(try have gq:=ltA w 1 w1);(try have ow:=ltA w 2 w1);(try have ns:=lt0 wr w1);(try have nt:=ltA wr 1 w1))|(go_at_call 147;refine(bF _ Jb).mono ?_;rintro r w1 ⟨rfl,ac⟩;have ⟨ak,af⟩:=aft ac;(try simp at af);(try have bV:=lt0 w w1);(try have gq:=ltA w 1 w1);(try have ow:=ltA w 2 w1);(try have ns:=lt0 wr w1);(try have nt:=ltA wr 1 w1)))
   exact Ueg
  have ek:Jch q=false:=by unfold Jch;rw [if_neg q1,if_neg Ua]
  rw [ek] at aa;simp only [Bool.and_false,Bool.false_and] at aa
  cases b4
  ·have HR:=Lib.hid aa;clear aa hd hx
   go_wp2_with (first|(go_at_call 143;refine(Qt _ _).mono ?_;rintro r w1 ⟨rfl,ac⟩;have ⟨ak,af⟩:=aft ac;(try simp at af);(try have bV:=lt0 w w1);(try have gq:=ltA w 1 w1);(try have ow:=ltA w 2 w1);(try have ns:=lt0 wr w1);(try have nt:=ltA wr 1 w1))|(go_at_call 145;refine(aB _ Jb).mono ?_;rintro r w1 ⟨rfl,ac⟩;have ⟨ak,af⟩:=aft ac;(try simp at af);(try have bV:=lt0 w w1);(try have gq:=ltA w 1 w1);(try have ow:=ltA w 2 w1);(try have ns:=lt0 wr w1);(try have nt:=ltA wr 1 w1))|(go_at_call 146;refine(cU _ Jb).mono ?_;rintro r w1 ⟨rfl,ac⟩;have ⟨ak,af⟩:=aft ac;(try simp at af);(try have bV:=lt0 w w1);(try have gq:=ltA w 1 w1);(try have ow:=ltA w 2 w1);(try have ns:=lt0 wr w1);(try have nt:=ltA wr 1 w1))|(go_at_call 147;refine(bF _ Jb).mono ?_;rintro r w1 ⟨rfl,ac⟩;have ⟨ak,af⟩:=aft ac;(try simp at af);(try have bV:=lt0 w w1);(try have gq:=ltA w 1 w1);(try have ow:=ltA w 2 w1);(try have ns:=lt0 wr w1);(try have nt:=ltA wr 1 w1)))
   exact Udg
  cases hn:Kz q.name
  ·have HR:=Lib.hid aa;clear aa hd hx
   go_wp2_with (first|(go_at_call 143;refine(Qt _ _).mono ?_;rintro r w1 ⟨rfl,ac⟩;have ⟨ak,af⟩:=aft ac;(try simp at af);(try have bV:=lt0 w w1);(try have gq:=ltA w 1 w1);(try have ow:=ltA w 2 w1);(try have ns:=lt0 wr w1);(try have nt:=ltA wr 1 w1))|(go_at_call 145;refine(aB _ Jb).mono ?_;rintro r w1 ⟨rfl,ac⟩;have ⟨ak,af⟩:=aft ac;(try simp at af);(try have bV:=lt0 w w1);(try have gq:=ltA w 1 w1);(try have ow:=ltA w 2 w1);(try have ns:=lt0 wr w1);(try have nt:=ltA wr 1 w1))|(go_at_call 146;refine(cU _ Jb).mono ?_;rintro r w1 ⟨rfl,ac⟩;have ⟨ak,af⟩:=aft ac;(try simp at af);(try have bV:=lt0 w w1);(try have gq:=ltA w 1 w1);(try have ow:=ltA w 2 w1);(try have ns:=lt0 wr w1);(try have nt:=ltA wr 1 w1))|(go_at_call 147;refine(bF _ Jb).mono ?_;rintro r w1 ⟨rfl,ac⟩;have ⟨ak,af⟩:=aft ac;(try simp at af);(try have bV:=lt0 w w1);(try have gq:=ltA w 1 w1);(try have ow:=ltA w 2 w1);(try have ns:=lt0 wr w1);(try have nt:=ltA wr 1 w1)))
   exact Udg
  cases hr:(q.e.right == 0)
  ·have HR:=Lib.hid aa;clear aa hd hx
   go_wp2_with (first|(go_at_call 143;refine(Qt _ _).mono ?_;rintro r w1 ⟨rfl,ac⟩;have ⟨ak,af⟩:=aft ac;(try simp at af);(try have bV:=lt0 w w1);(try have gq:=ltA w 1 w1);(try have ow:=ltA w 2 w1);(try have ns:=lt0 wr w1);(try have nt:=ltA wr 1 w1))|(go_at_call 145;refine(aB _ Jb).mono ?_;rintro r w1 ⟨rfl,ac⟩;have ⟨ak,af⟩:=aft ac;(try simp at af);(try have bV:=lt0 w w1);(try have gq:=ltA w 1 w1);(try have ow:=ltA w 2 w1);(try have ns:=lt0 wr w1);(try have nt:=ltA wr 1 w1))|(go_at_call 146;refine(cU _ Jb).mono ?_;rintro r w1 ⟨rfl,ac⟩;have ⟨ak,af⟩:=aft ac;(try simp at af);(try have bV:=lt0 w w1);(try have gq:=ltA w 1 w1);(try have ow:=ltA w 2 w1);(try have ns:=lt0 wr w1);(try have nt:=ltA wr 1 w1))|(go_at_call 147;refine(bF _ Jb).mono ?_;rintro r w1 ⟨rfl,ac⟩;have ⟨ak,af⟩:=aft ac;(try simp at af);(try have bV:=lt0 w w1);(try have gq:=ltA w 1 w1);(try have ow:=ltA w 2 w1);(try have ns:=lt0 wr w1);(try have nt:=ltA wr 1 w1)))
   exact Udg
  ·have HR:=Lib.hid aa;clear aa hd hx
   go_wp2_with (first|(go_at_call 143;refine(Qt _ _).mono ?_;rintro r w1 ⟨rfl,ac⟩;have ⟨ak,af⟩:=aft ac;(try simp at af);(try have bV:=lt0 w w1);(try have gq:=ltA w 1 w1);(try have ow:=ltA w 2 w1);(try have ns:=lt0 wr w1);(try have nt:=ltA wr 1 w1))|(go_at_call 145;refine(aB _ Jb).mono ?_;rintro r w1 ⟨rfl,ac⟩;have ⟨ak,af⟩:=aft ac;(try simp at af);(try have bV:=lt0 w w1);(try have gq:=ltA w 1 w1);(try have ow:=ltA w 2 w1);(try have ns:=lt0 wr w1);(try have nt:=ltA wr 1 w1))|(go_at_call 146;refine(cU _ Jb).mono ?_;rintro r w1 ⟨rfl,ac⟩;have ⟨ak,af⟩:=aft ac;(try simp at af);(try have bV:=lt0 w w1);(try have gq:=ltA w 1 w1);(try have ow:=ltA w 2 w1);(try have ns:=lt0 wr w1);(try have nt:=ltA wr 1 w1))|(go_at_call 147;refine(bF _ Jb).mono ?_;rintro r w1 ⟨rfl,ac⟩;have ⟨ak,af⟩:=aft ac;(try simp at af);(try have bV:=lt0 w w1);(try have gq:=ltA w 1 w1);(try have ow:=ltA w 2 w1);(try have ns:=lt0 wr w1);(try have nt:=ltA wr 1 w1)))
   exact Udg
 have bk:k=p.eqs.length:=Ua;rw [bk,List.drop_length,List.all_nil,Bool.and_true] at aa;have HR:=Lib.hid aa;clear aa bk
 go_wp2_with fail
 go_ret;exact⟨Jk HR.out,Jb⟩
theorem Jpg (v:Va) (hs:Jb8 v) (w:World):Calls Tryz.prog 130 #[vaV v] w fun r w'=>r = .returned (.string (Jb9 v))/\Below w.heap.size w w':=by
 obtain⟨h1,h2⟩:=hs;unfold vaV
 by_cases c1:v.ck=1 <;> by_cases c2:v.ck=2 <;> by_cases c3:v.type=2 <;> first|omega |
 ·have hv:Jb9 v=Jb9 v:=rfl;rw (occs:= .pos [2]) [Jb9] at hv
  first|rw [if_pos c1] at hv|rw [if_neg c1,if_pos c2] at hv|rw [if_neg c1,if_neg c2] at hv
  first|rw [if_pos c3] at hv|rw [if_neg c3] at hv
  have HV:=Lib.hid hv;clear hv
  go_enter Tryz.func130,Tryz.ntmps130
  go_wp2_with fail
  exact Uef
theorem Jpo (l:List Va) (A:Option Addr) (cap:Nat) (hs:∀v∈l,Jb8 v) (hn:l.length<=1000000) (w:World) (hl:Ju w l A cap) :
  Calls Tryz.prog 129 #[.slice A l.length cap] w fun r w'=>r = .returned (.string (Y9 l))/\Below w.heap.size w w':=by
 have aD:=hl.len;unfold maxLen at aD;obtain⟨fD,cG⟩:=aD;have cE:=Jcl l hs 0 ⟨#[40]⟩;have HV:=Lib.hid (show Y9 l=Yr 0 ⟨#[40]⟩ l ++ ⟨#[41]⟩ from rfl)
 have hz:(Yr 0 ⟨#[40]⟩ l).size<=100000000:=by
  simp only [Ko,List.size_toArray,List.length_cons,List.length_nil] at cE;exact Ua
 clear cE;generalize hG:Yr 0 ⟨#[40]⟩ l=G at HV hz;have HG:=Lib.hid hG;clear hG
 go_enter Tryz.func129,Tryz.ntmps129
 go_wp2_with fail
 go_loopw [3,8] (fun o i wr=>∃(k:Nat) (s:ByteArray),k<=l.length/\i = .int .i64 k/\o = .string s/\s.size<=1+62 * k/\Yr k s (l.drop k)=G/\Below w.heap.size w wr) (fun _ i _=>l.length-(intOf i).toNat)
 case atStart=>exact⟨0,⟨#[40]⟩,Nat.zero_le _,rfl,rfl,Ux,HG.out,Below.refl _ _⟩
 case round=>
  obtain⟨k,s,hk,rfl,rfl,rV,aa,ab⟩:=hrel
  by_cases am:k<l.length
  ·have aj:l[k]∈l:=List.getElem_mem am;have hx:l[k]?=some l[k]:=List.getElem?_eq_getElem am;have hd:l.drop k=l[k] :: l.drop (k+1):=List.drop_eq_getElem_cons am;generalize l[k]=x at hx hd aj;obtain⟨b,off,rfl,aH,⟨d0,d1,d2,d3⟩⟩:=(hl.later ab).get hx;rw [hd,Yr] at aa;have mn:=hs x aj;have hds:=Jc9 mn;have eA:=fun W=>Jpg x mn W;unfold vaV at eA;clear hd hx
   rcases Nat.eq_zero_or_pos k with h0|h0
   ·subst h0;rw [if_neg Ua] at aa;have HR:=Lib.hid aa;clear aa;simp only [Nat.zero_mul,Nat.add_zero] at d0 d1 d2 d3
    go_wp2_with (first|(go_at_call 130;refine(eA _).mono ?_;rintro r w1 ⟨rfl,ac⟩;have ⟨ak,af⟩:=aft ac;(try simp at af)))
    exact Ucu
   ·rw [if_pos h0] at aa;have HR:=Lib.hid aa;clear aa;have h0':(0:Int)<k:=Ua;exact Ubb
  ·obtain rfl:k=l.length:=Ua;rw [List.drop_length,Yr] at aa;have HR:=Lib.hid aa;clear aa
   go_wp2_with fail
   go_ret;exact⟨Kk (by rw [HV.out,<-HR.out]),Jb⟩
def X8 (p:Pr):ByteArray:=if K5 p=0 then Jal p else⟨#[]⟩
theorem Jh3 (p:Pr) (a:PrA) (w:World) (hp:Kr w p a) (n1:p.ins.length<=1000000) (n2:p.outs.length<=1000000) (n3:p.locals.length<=1000000) (n4:p.eqs.length<=1000000) :
  Calls Tryz.prog 110 #[prV p a] w fun r w'=>r = .returned (.tuple #[.string (X8 p),.int .i64 (K5 p)])/\Below w.heap.size w w':=by
 have bI:=hp.ins.len;have aD:=hp.outs.len;have fD:=hp.locals.len;have cG:=hp.eqs.len;unfold maxLen at bI aD fD cG;obtain⟨bI,iw⟩:=bI;obtain⟨aD,cI⟩:=aD;obtain⟨fD,kV⟩:=fD;obtain⟨cG,sS⟩:=cG;have gd:=fun W h=>Ju2 p a W (hp.later h);obtain⟨A1,c1,A2,c2,A3,c3,A4,c4⟩:=a;unfold prV at gd ⊢;dsimp only at *
 cases hw:Qw p
 ·have hv:K5 p=4:=Sh;have hs:X8 p=⟨#[]⟩:=Mz;have HS:=Lib.hid hs;clear hs;have HV:=Lib.hid hv;clear hv
  go_enter Tryz.func110,Tryz.ntmps110
  go_wp2_with (first|(go_at_call 128;refine(gd _ Jb).mono ?_;rintro r w1 ⟨rfl,ac⟩;have ⟨ak,af⟩:=aft ac;(try simp at af)))
  go_ret2
  exact⟨by rw [HV.out,HS.out];rfl,Jb⟩
 obtain⟨aL,jT,jb,lj,qt⟩:=X4 hw;have hv:K5 p=if 4096<(Jal p).size then 3 else 0:=Sh;have HV:=Lib.hid hv;clear hv;have vS:=Lib.hid lj;clear lj;have qu:=Lib.hid qt;clear qt;have mC:=fun W h=>Jpo p.ins A1 c1 jT n1 W (hp.ins.later h);have mD:=fun W h=>Jpo p.outs A2 c2 jb n2 W (hp.outs.later h);have z1:=Jjv jT;have z2:=Jjv jb;clear jT jb;have HPB:=Lib.hid (show Jal p=Zs (Xr (if 0<p.locals.length then Ym p ++ ⟨#[118,97,114,10]⟩ else Ym p) p.locals ++ ⟨#[108,101,116,10]⟩) p.eqs ++ ⟨#[116,101,108,10]⟩ from rfl);have HHD:=Lib.hid (show Ym p=⟨#[110,111,100,101,32]⟩ ++ p.name ++ ⟨#[32]⟩ ++ Y9 p.ins ++ ⟨#[32,114,101,116,117,114,110,115,32]⟩ ++ Y9 p.outs ++ ⟨#[59,10]⟩ from rfl);have y1:¬9223372036854775807<5+p.name.size:=Ua;have y2:¬9223372036854775807<5+p.name.size+1:=Ua;have y3:¬9223372036854775807<5+p.name.size+1+(Y9 p.ins).size:=Ua;have y4:¬9223372036854775807<5+p.name.size+1+(Y9 p.ins).size+9:=Ua;have y5:¬9223372036854775807<5+p.name.size+1+(Y9 p.ins).size+9+(Y9 p.outs).size:=Ua;have y6:¬9223372036854775807<5+p.name.size+1+(Y9 p.ins).size+9+(Y9 p.outs).size+2:=Ua;generalize Y9 p.ins=t1 at *;generalize Y9 p.outs=t2 at *
 go_enter Tryz.func110,Tryz.ntmps110
 go_wp2_with (first|(go_at_call 128;refine(gd _ Jb).mono ?_;rintro r w1 ⟨rfl,ac⟩;have ⟨ak,af⟩:=aft ac;(try simp at af)))
 have hy1':w.heap.size<w1.heap.size:=Ua;refine Jx Ug Ug (fun bj=>?_)
 repeat (quiet_step ((first|(go_at_call_of 129 A1;exact Calls.regrown_of (mC _ Jb))|(go_at_call_of 129 A2;exact Calls.regrown_of (mD _ Jb)))))
 refine wpQuiet_nil ?_;intro wq au;replace au:=qbo au;obtain⟨au,dA,bh⟩:=au;clear bj
 (try simp at bh)
 by_cases qv:0<p.locals.length
 ·have qw:(if 0<p.locals.length then Ym p ++ ⟨#[118,97,114,10]⟩ else Ym p)=Ym p ++ ⟨#[118,97,114,10]⟩:=if_pos qv;have vT:=Lib.hid qw;clear qw
  go_wp2_with fail
  refine Jo fun W0 ag=>?_;have ax:Below w.heap.size w W0:=Uo;have bD:w.heap.size<W0.heap.size:=Lk;have k4:W0.cell? ⟨w.heap.size,4,none⟩=some (.slice A4 p.eqs.length c4):=Uc;clear ag;have ip:=hp.locals.later ax;have bT:=hp.eqs.later ax;dsimp only at ip bT
  go_loopw [4,35] (fun o i wr=>∃(k:Nat) (s:ByteArray),k<=p.locals.length/\i = .int .i64 k/\o = .string s/\s.size<=200000000+70 * k/\Xr s (p.locals.drop k)=Xr (Ym p ++ ⟨#[118,97,114,10]⟩) p.locals/\Below W0.heap.size W0 wr) (fun _ i _=>p.locals.length-(intOf i).toNat)
  case atStart=>exact⟨0,_,Nat.zero_le _,rfl,rfl,Uk,Tc,Below.refl _ _⟩
  case round=>
   obtain⟨k,sx,hk,rfl,rfl,rV,aa,ab⟩:=hrel;have hc:=Jg ab;have bu:=ab.size
   by_cases am:k<p.locals.length
   ·obtain⟨x,hx,-,hd⟩:=Kl am;obtain⟨b,off,rfl,aH,⟨d0,d1,d2,d3⟩⟩:=(ip.later ab).get hx;rw [hd,Xr] at aa;have mn:=vS.out x (List.mem_of_getElem? hx);have hds:=Jc9 mn;have eA:=fun W=>Jpg x mn W;unfold vaV at eA;have HR:=Lib.hid aa;clear aa hd hx;exact Ubb
   ·exact Ue1
 ·have qw:(if 0<p.locals.length then Ym p ++ ⟨#[118,97,114,10]⟩ else Ym p)=Ym p:=if_neg qv;have vT:=Lib.hid qw;clear qw
  go_wp2_with fail
  refine Jo fun W0 ag=>?_;have ax:Below w.heap.size w W0:=Uo;have bD:w.heap.size<W0.heap.size:=Lk;have k4:W0.cell? ⟨w.heap.size,4,none⟩=some (.slice A4 p.eqs.length c4):=Uc;clear ag;have ip:=hp.locals.later ax;have bT:=hp.eqs.later ax;dsimp only at ip bT
  go_loopw [4,35] (fun o i wr=>∃(k:Nat) (s:ByteArray),k<=p.locals.length/\i = .int .i64 k/\o = .string s/\s.size<=200000000+70 * k/\Xr s (p.locals.drop k)=Xr (Ym p) p.locals/\Below W0.heap.size W0 wr) (fun _ i _=>p.locals.length-(intOf i).toNat)
  case atStart=>exact⟨0,_,Nat.zero_le _,rfl,rfl,Uk,Tc,Below.refl _ _⟩
  case round=>
   obtain⟨k,sx,hk,rfl,rfl,rV,aa,ab⟩:=hrel;have hc:=Jg ab;have bu:=ab.size
   by_cases am:k<p.locals.length
   ·exfalso;omega
   ·exact Ue1
def fV (f:Int×Int×Int):Value:= .agg #[.int .i64 f.1,.int .i64 f.2.1,.int .i64 f.2.2]
theorem Js4 (p:Pr) (a:PrA) (w:World) (hp:Kr w p a) (n1:p.ins.length<=1000000) (n2:p.outs.length<=1000000) (n3:p.locals.length<=1000000) (n4:p.eqs.length<=1000000) (he:K5 p≠0) :
  Calls Tryz.prog 75 #[prV p a] w fun r w'=>r = .returned (fV (J7 p))/\Below w.heap.size w w':=by
 have hv:J7 p=(4,0,K5 p):=by unfold J7;rw [if_pos he]
 have bN:=fun W h=>Jh3 p a W (hp.later h) n1 n2 n3 n4;have he':(K5 p != 0)=true:=Ta;clear he;obtain⟨A1,c1,A2,c2,A3,c3,A4,c4⟩:=a;unfold prV at *;unfold fV;dsimp only at *;have HV:=Lib.hid hv;clear hv
 go_enter Tryz.func75,Tryz.ntmps75
 go_wp2_with (go_at_call 110;refine(bN _ Jb).mono ?_;rintro r w1 ⟨rfl,ac⟩;have ak:=Jg ac;have tH:=Jf ac;have af:=ac.size;(try simp at af);(try have bV:=lt0 w w1);(try have gq:=ltA w 1 w1);(try have ow:=ltA w 2 w1);(try have ns:=lt0 wr w1);(try have nt:=ltA wr 1 w1))
 go_ways
 refine bodyPost_ret (v:= .agg #[.int .i64 (4),.int .i64 (0),.int .i64 (K5 p)]) Vy rfl ⟨Vp,?_⟩;exact Km
end Go.Proofs.YtknfcamdfdfoeaaGreatDoor
