/- Lemmas. -/
import Derived.Test.YtdgjplldlfeolaaGreatDoorZ04
set_option linter.unusedVariables false
set_option linter.unusedSimpArgs false
set_option maxRecDepth 100000
set_option maxHeartbeats 64000000
namespace Go.Proofs.YtdgjplldlfeolaaGreatDoor
open Go.RowKit Go.Sort
def Jch (q:Qe):Bool:=if q.delay=1 then q.first.literal else if q.delay=0\/q.delay=2 then q.first.same Ex.zero else false
theorem Juw (q:Qe):eqB q=(Kz q.name && q.e.right == 0 && Jch q):=rfl
theorem Jvg (w:World):Jt w Ex.zero none 0:=by simp [Jt,Ex.zero]
theorem Ju2 (p:Pr) (a:PrA) (w:World) (hp:Kr w p a) :
  Calls Tryz.prog 22 #[prV p a] w fun r w'=>r = .returned (.bool (Qw p))/\Below w.heap.size w w':=by
 have bI:=hp.ins.len;have aD:=hp.outs.len;have fD:=hp.locals.len;have cG:=hp.eqs.len;unfold maxLen at bI aD fD cG;obtain⟨bI,iw⟩:=bI;obtain⟨aD,cI⟩:=aD;obtain⟨fD,kV⟩:=fD;obtain⟨cG,sS⟩:=cG;obtain⟨A1,c1,A2,c2,A3,c3,A4,c4⟩:=a;unfold prV;dsimp only at *
 go_enter Tryz.func22,Tryz.ntmps22
 go_wp2_with (first|(go_at_call 47;refine mo (Qt _ _) fun w1 ac ak af bV=>?_;(try simp at af)))
 refine Jo fun W0 ag=>?_;have ax:Below w.heap.size w W0:=by rw [ag];exact Jb
 have bD:w.heap.size<W0.heap.size:=by rw [ag];first|omega|(simp;omega)
 have k1:W0.cell? ⟨w.heap.size,1,none⟩=some (.slice A1 p.ins.length c1):=by rw [ag];go_simp
 have k2:W0.cell? ⟨w.heap.size,2,none⟩=some (.slice A2 p.outs.length c2):=by rw [ag];go_simp
 have k3:W0.cell? ⟨w.heap.size,3,none⟩=some (.slice A3 p.locals.length c3):=by rw [ag];go_simp
 have k4:W0.cell? ⟨w.heap.size,4,none⟩=some (.slice A4 p.eqs.length c4):=by rw [ag];go_simp
 clear ag;have pp:=hp.later ax;obtain⟨ii,gL,ip,bT⟩:=pp;dsimp only at ii gL ip bT;have hl:(Kz p.name && (p.ins.drop 0).all (Ke · false))=(Kz p.name && p.ins.all (Ke · false)):=rfl;have HL:=Lib.hid hl;clear hl
 go_loopw [3,18] (fun o i wr=>∃(k:Nat) (b1:Bool),k<=p.ins.length/\i = .int .i64 k/\o = .bool b1/\(b1 && (p.ins.drop k).all (Ke · false))=(Kz p.name && p.ins.all (Ke · false))/\Below W0.heap.size W0 wr) (fun _ i _=>p.ins.length-(intOf i).toNat)
 case atStart=>exact⟨0,_,Nat.zero_le _,rfl,rfl,HL.out,by first|exact Below.refl _ _|assumption⟩
 case round=>
 obtain⟨k,b1,hk,rfl,rfl,aa,ab⟩:=hrel;have hc:=Jg ab;have bu:=ab.size
 by_cases am:k<p.ins.length
 ·obtain⟨x,hx,-,hd⟩:=Kl am;obtain⟨b,off,rfl,aH,⟨d0,d1,d2,d3⟩⟩:=(ii.later ab).get hx;rw [hd,List.all_cons] at aa;have dE:=fun W=>Je0 x false W;unfold vaV at dE
  cases b1
  ·rw [Bool.false_and] at aa;have HR:=Lib.hid aa;clear aa hd hx
   go_wp2_with fail
   go_roundw
   case rel=>exact⟨k+1,false,by omega,by go_num,rfl,by rw [Bool.false_and];exact HR.out,Jb⟩
   case measure=>simp [intOf];omega
  ·rw [Bool.true_and] at aa;have HR:=Lib.hid aa;clear aa hd hx
   go_wp2_with (first|(go_at_call 48;refine mo (dE _) fun w1 ac ak af bV=>?_;(try simp at af)))
   go_roundw
   case rel=>exact⟨k+1,Ke x false,by omega,by go_num,rfl,HR.out,Jb⟩
   case measure=>simp [intOf];omega
 have bk:k=p.ins.length:=by omega
 rw [bk,List.drop_length,List.all_nil,Bool.and_true] at aa;clear bk;have HX1:=Lib.hid aa;clear aa
 go_wp2_with fail
 have hl:(b1 && (p.outs.drop 0).all (Ke · false))=(b1 && p.outs.all (Ke · false)):=rfl;have HL:=Lib.hid hl;clear hl
 go_loopw [3,31] (fun o i wr=>∃(k:Nat) (b2:Bool),k<=p.outs.length/\i = .int .i64 k/\o = .bool b2/\(b2 && (p.outs.drop k).all (Ke · false))=(b1 && p.outs.all (Ke · false))/\Below W0.heap.size W0 wr) (fun _ i _=>p.outs.length-(intOf i).toNat)
 case atStart=>exact⟨0,_,Nat.zero_le _,rfl,rfl,HL.out,by first|exact Below.refl _ _|assumption⟩
 case round=>
 obtain⟨k,b2,hk,rfl,rfl,aa,ab⟩:=hrel;have hc:=Jg ab;have bu:=ab.size
 by_cases am:k<p.outs.length
 ·obtain⟨x,hx,-,hd⟩:=Kl am;obtain⟨b,off,rfl,aH,⟨d0,d1,d2,d3⟩⟩:=(gL.later ab).get hx;rw [hd,List.all_cons] at aa;have dE:=fun W=>Je0 x false W;unfold vaV at dE
  cases b2
  ·rw [Bool.false_and] at aa;have HR:=Lib.hid aa;clear aa hd hx
   go_wp2_with fail
   go_roundw
   case rel=>exact⟨k+1,false,by omega,by go_num,rfl,by rw [Bool.false_and];exact HR.out,Jb⟩
   case measure=>simp [intOf];omega
  ·rw [Bool.true_and] at aa;have HR:=Lib.hid aa;clear aa hd hx
   go_wp2_with (first|(go_at_call 48;refine mo (dE _) fun w1 ac ak af bV=>?_;(try simp at af)))
   go_roundw
   case rel=>exact⟨k+1,Ke x false,by omega,by go_num,rfl,HR.out,Jb⟩
   case measure=>simp [intOf];omega
 have bk:k=p.outs.length:=by omega
 rw [bk,List.drop_length,List.all_nil,Bool.and_true] at aa;clear bk;have HX2:=Lib.hid aa;clear aa
 go_wp2_with fail
 have hl:(b2 && (p.locals.drop 0).all (Ke · true))=(b2 && p.locals.all (Ke · true)):=rfl;have HL:=Lib.hid hl;clear hl
 go_loopw [3,44] (fun o i wr=>∃(k:Nat) (b3:Bool),k<=p.locals.length/\i = .int .i64 k/\o = .bool b3/\(b3 && (p.locals.drop k).all (Ke · true))=(b2 && p.locals.all (Ke · true))/\Below W0.heap.size W0 wr) (fun _ i _=>p.locals.length-(intOf i).toNat)
 case atStart=>exact⟨0,_,Nat.zero_le _,rfl,rfl,HL.out,by first|exact Below.refl _ _|assumption⟩
 case round=>
 obtain⟨k,b3,hk,rfl,rfl,aa,ab⟩:=hrel;have hc:=Jg ab;have bu:=ab.size
 by_cases am:k<p.locals.length
 ·obtain⟨x,hx,-,hd⟩:=Kl am;obtain⟨b,off,rfl,aH,⟨d0,d1,d2,d3⟩⟩:=(ip.later ab).get hx;rw [hd,List.all_cons] at aa;have dE:=fun W=>Je0 x true W;unfold vaV at dE
  cases b3
  ·rw [Bool.false_and] at aa;have HR:=Lib.hid aa;clear aa hd hx
   go_wp2_with fail
   go_roundw
   case rel=>exact⟨k+1,false,by omega,by go_num,rfl,by rw [Bool.false_and];exact HR.out,Jb⟩
   case measure=>simp [intOf];omega
  ·rw [Bool.true_and] at aa;have HR:=Lib.hid aa;clear aa hd hx
   go_wp2_with (first|(go_at_call 48;refine mo (dE _) fun w1 ac ak af bV=>?_;(try simp at af)))
   go_roundw
   case rel=>exact⟨k+1,Ke x true,by omega,by go_num,rfl,HR.out,Jb⟩
   case measure=>simp [intOf];omega
 have bk:k=p.locals.length:=by omega
 rw [bk,List.drop_length,List.all_nil,Bool.and_true] at aa;clear bk;have HX3:=Lib.hid aa;clear aa
 have hl:(b3 && (p.eqs.drop 0).all eqB)=Qw p:=by
  rw [HX3.out,HX2.out,HX1.out];rfl
 have HL:=Lib.hid hl;clear hl
 go_wp2_with fail
 go_loopw [3,57] (fun o i wr=>∃(k:Nat) (b4:Bool),k<=p.eqs.length/\i = .int .i64 k/\o = .bool b4/\(b4 && (p.eqs.drop k).all eqB)=Qw p/\Below W0.heap.size W0 wr) (fun _ i _=>p.eqs.length-(intOf i).toNat)
 case atStart=>exact⟨0,_,Nat.zero_le _,rfl,rfl,HL.out,by first|exact Below.refl _ _|assumption⟩
 case round=>
 obtain⟨k,b4,hk,rfl,rfl,aa,ab⟩:=hrel;have hc:=Jg ab;have bu:=ab.size
 by_cases am:k<p.eqs.length
 ·obtain⟨q,hx,-,hd⟩:=Kl am;obtain⟨b,off,B1,n1,B2,n2,rfl,aH,⟨g0,g1,g2,g3,g4,g5,g6,g7,g8,g9,s1,s2⟩⟩:=(bT.later ab).get hx;rw [hd,List.all_cons,Juw] at aa;have aB:=fun W h=>Jnc q.e B2 n2 W (s2.later h);have cU:=fun W h=>Jqk q.first B1 n1 W (s1.later h);have bF:=fun W h=>Jw3 q.first Ex.zero B1 n1 none 0 W (s1.later h) (Jvg _);unfold exV at aB cU bF;unfold Ex.zero at bF;simp only [Ex.kind,Ex.n,Ex.name,Ex.sub,List.length_nil] at bF
  by_cases q1:q.delay=1
  ·have q1':(q.delay == 1)=true:=by simp [q1]
   have ek:Jch q=q.first.literal:=by unfold Jch;rw [if_pos q1]
   clear q1;rw [ek] at aa
   cases b4
   ·replace aa:(false && (List.drop (k+1) p.eqs).all eqB)=Qw p:=by rw [<-aa];simp only [Bool.false_and,Bool.and_false]
    have HR:=Lib.hid aa;clear aa hd hx
    go_wp2_with (first|(go_at_call 47;refine mo (Qt _ _) fun w1 ac ak af bV=>?_;(try simp at af))|(go_at_call 21;refine mo (aB _ Jb) fun w1 ac ak af bV=>?_;(try simp at af))|(go_at_call 49;refine mo (cU _ Jb) fun w1 ac ak af bV=>?_;(try simp at af))|(go_at_call 50;refine mo (bF _ Jb) fun w1 ac ak af bV=>?_;(try simp at af)))
    go_roundw
    case rel=>exact⟨k+1,_,by omega,by go_num,rfl,HR.out,Jb⟩
    case measure=>simp [intOf];omega
   cases hn:Kz q.name
   ·rw [hn] at aa;replace aa:(false && (List.drop (k+1) p.eqs).all eqB)=Qw p:=by rw [<-aa];simp only [Bool.false_and,Bool.and_false]
    have HR:=Lib.hid aa;clear aa hd hx
    go_wp2_with (first|(go_at_call 47;refine mo (Qt _ _) fun w1 ac ak af bV=>?_;(try simp at af))|(go_at_call 21;refine mo (aB _ Jb) fun w1 ac ak af bV=>?_;(try simp at af))|(go_at_call 49;refine mo (cU _ Jb) fun w1 ac ak af bV=>?_;(try simp at af))|(go_at_call 50;refine mo (bF _ Jb) fun w1 ac ak af bV=>?_;(try simp at af)))
    go_roundw
    case rel=>exact⟨k+1,_,by omega,by go_num,rfl,HR.out,Jb⟩
    case measure=>simp [intOf];omega
   cases hr:(q.e.right == 0)
   ·rw [hn,hr] at aa;replace aa:(false && (List.drop (k+1) p.eqs).all eqB)=Qw p:=by rw [<-aa];simp only [Bool.false_and,Bool.and_false]
    have HR:=Lib.hid aa;clear aa hd hx
    go_wp2_with (first|(go_at_call 47;refine mo (Qt _ _) fun w1 ac ak af bV=>?_;(try simp at af))|(go_at_call 21;refine mo (aB _ Jb) fun w1 ac ak af bV=>?_;(try simp at af))|(go_at_call 49;refine mo (cU _ Jb) fun w1 ac ak af bV=>?_;(try simp at af))|(go_at_call 50;refine mo (bF _ Jb) fun w1 ac ak af bV=>?_;(try simp at af)))
    go_roundw
    case rel=>exact⟨k+1,_,by omega,by go_num,rfl,HR.out,Jb⟩
    case measure=>simp [intOf];omega
   rw [hn,hr] at aa;replace aa:(q.first.literal && (List.drop (k+1) p.eqs).all eqB)=Qw p:=by rw [<-aa];simp only [Bool.true_and,Bool.and_true]
   have HR:=Lib.hid aa;clear aa hd hx
   go_wp2_with (first|(go_at_call 47;refine mo (Qt _ _) fun w1 ac ak af bV=>?_;(try simp at af))|(go_at_call 21;refine mo (aB _ Jb) fun w1 ac ak af bV=>?_;(try simp at af))|(go_at_call 49;refine mo (cU _ Jb) fun w1 ac ak af bV=>?_;(try simp at af))|(go_at_call 50;refine mo (bF _ Jb) fun w1 ac ak af bV=>?_;(try simp at af)))
   go_roundw
   case rel=>exact⟨k+1,_,by omega,by go_num,rfl,HR.out,Jb⟩
   case measure=>simp [intOf];omega
  by_cases q0:q.delay=0
  ·have q0':(q.delay == 0)=true:=by simp [q0]
   have ek:Jch q=q.first.same Ex.zero:=by unfold Jch;rw [if_neg q1,if_pos (.inl q0)]
   clear q0;rw [ek] at aa
   cases b4
   ·replace aa:(false && (List.drop (k+1) p.eqs).all eqB)=Qw p:=by rw [<-aa];simp only [Bool.false_and,Bool.and_false]
    have HR:=Lib.hid aa;clear aa hd hx
    go_wp2_with (first|(go_at_call 47;refine mo (Qt _ _) fun w1 ac ak af bV=>?_;(try simp at af))|(go_at_call 21;refine mo (aB _ Jb) fun w1 ac ak af bV=>?_;(try simp at af))|(go_at_call 49;refine mo (cU _ Jb) fun w1 ac ak af bV=>?_;(try simp at af))|(go_at_call 50;refine mo (bF _ Jb) fun w1 ac ak af bV=>?_;(try simp at af)))
    go_roundw
    case rel=>exact⟨k+1,_,by omega,by go_num,rfl,HR.out,Jb⟩
    case measure=>simp [intOf];omega
   cases hn:Kz q.name
   ·rw [hn] at aa;replace aa:(false && (List.drop (k+1) p.eqs).all eqB)=Qw p:=by rw [<-aa];simp only [Bool.false_and,Bool.and_false]
    have HR:=Lib.hid aa;clear aa hd hx
    go_wp2_with (first|(go_at_call 47;refine mo (Qt _ _) fun w1 ac ak af bV=>?_;(try simp at af))|(go_at_call 21;refine mo (aB _ Jb) fun w1 ac ak af bV=>?_;(try simp at af))|(go_at_call 49;refine mo (cU _ Jb) fun w1 ac ak af bV=>?_;(try simp at af))|(go_at_call 50;refine mo (bF _ Jb) fun w1 ac ak af bV=>?_;(try simp at af)))
    go_roundw
    case rel=>exact⟨k+1,_,by omega,by go_num,rfl,HR.out,Jb⟩
    case measure=>simp [intOf];omega
   cases hr:(q.e.right == 0)
   ·rw [hn,hr] at aa;replace aa:(false && (List.drop (k+1) p.eqs).all eqB)=Qw p:=by rw [<-aa];simp only [Bool.false_and,Bool.and_false]
    have HR:=Lib.hid aa;clear aa hd hx
    go_wp2_with (first|(go_at_call 47;refine mo (Qt _ _) fun w1 ac ak af bV=>?_;(try simp at af))|(go_at_call 21;refine mo (aB _ Jb) fun w1 ac ak af bV=>?_;(try simp at af))|(go_at_call 49;refine mo (cU _ Jb) fun w1 ac ak af bV=>?_;(try simp at af))|(go_at_call 50;refine mo (bF _ Jb) fun w1 ac ak af bV=>?_;(try simp at af)))
    go_roundw
    case rel=>exact⟨k+1,_,by omega,by go_num,rfl,HR.out,Jb⟩
    case measure=>simp [intOf];omega
   rw [hn,hr] at aa;replace aa:(q.first.same Ex.zero && (List.drop (k+1) p.eqs).all eqB)=Qw p:=by rw [<-aa];simp only [Bool.true_and,Bool.and_true]
   have HR:=Lib.hid aa;clear aa hd hx
   go_wp2_with (first|(go_at_call 47;refine mo (Qt _ _) fun w1 ac ak af bV=>?_;(try simp at af))|(go_at_call 21;refine mo (aB _ Jb) fun w1 ac ak af bV=>?_;(try simp at af))|(go_at_call 49;refine mo (cU _ Jb) fun w1 ac ak af bV=>?_;(try simp at af))|(go_at_call 50;refine mo (bF _ Jb) fun w1 ac ak af bV=>?_;(try simp at af)))
   go_roundw
   case rel=>exact⟨k+1,_,by omega,by go_num,rfl,HR.out,Jb⟩
   case measure=>simp [intOf];omega
  by_cases q2:q.delay=2
  ·have q2':(q.delay == 2)=true:=by simp [q2]
   have ek:Jch q=q.first.same Ex.zero:=by unfold Jch;rw [if_neg q1,if_pos (.inr q2)]
   clear q2;rw [ek] at aa
   cases b4
   ·replace aa:(false && (List.drop (k+1) p.eqs).all eqB)=Qw p:=by rw [<-aa];simp only [Bool.false_and,Bool.and_false]
    have HR:=Lib.hid aa;clear aa hd hx
    go_wp2_with (first|(go_at_call 47;refine mo (Qt _ _) fun w1 ac ak af bV=>?_;(try simp at af))|(go_at_call 21;refine mo (aB _ Jb) fun w1 ac ak af bV=>?_;(try simp at af))|(go_at_call 49;refine mo (cU _ Jb) fun w1 ac ak af bV=>?_;(try simp at af))|(go_at_call 50;refine mo (bF _ Jb) fun w1 ac ak af bV=>?_;(try simp at af)))
    go_roundw
    case rel=>exact⟨k+1,_,by omega,by go_num,rfl,HR.out,Jb⟩
    case measure=>simp [intOf];omega
   cases hn:Kz q.name
   ·rw [hn] at aa;replace aa:(false && (List.drop (k+1) p.eqs).all eqB)=Qw p:=by rw [<-aa];simp only [Bool.false_and,Bool.and_false]
    have HR:=Lib.hid aa;clear aa hd hx
    go_wp2_with (first|(go_at_call 47;refine mo (Qt _ _) fun w1 ac ak af bV=>?_;(try simp at af))|(go_at_call 21;refine mo (aB _ Jb) fun w1 ac ak af bV=>?_;(try simp at af))|(go_at_call 49;refine mo (cU _ Jb) fun w1 ac ak af bV=>?_;(try simp at af))|(go_at_call 50;refine mo (bF _ Jb) fun w1 ac ak af bV=>?_;(try simp at af)))
    go_roundw
    case rel=>exact⟨k+1,_,by omega,by go_num,rfl,HR.out,Jb⟩
    case measure=>simp [intOf];omega
   cases hr:(q.e.right == 0)
   ·rw [hn,hr] at aa;replace aa:(false && (List.drop (k+1) p.eqs).all eqB)=Qw p:=by rw [<-aa];simp only [Bool.false_and,Bool.and_false]
    have HR:=Lib.hid aa;clear aa hd hx
    go_wp2_with (first|(go_at_call 47;refine mo (Qt _ _) fun w1 ac ak af bV=>?_;(try simp at af))|(go_at_call 21;refine mo (aB _ Jb) fun w1 ac ak af bV=>?_;(try simp at af))|(go_at_call 49;refine mo (cU _ Jb) fun w1 ac ak af bV=>?_;(try simp at af))|(go_at_call 50;refine mo (bF _ Jb) fun w1 ac ak af bV=>?_;(try simp at af)))
    go_roundw
    case rel=>exact⟨k+1,_,by omega,by go_num,rfl,HR.out,Jb⟩
    case measure=>simp [intOf];omega
   rw [hn,hr] at aa;replace aa:(q.first.same Ex.zero && (List.drop (k+1) p.eqs).all eqB)=Qw p:=by rw [<-aa];simp only [Bool.true_and,Bool.and_true]
   have HR:=Lib.hid aa;clear aa hd hx
   go_wp2_with (first|(go_at_call 47;refine mo (Qt _ _) fun w1 ac ak af bV=>?_;(try simp at af))|(go_at_call 21;refine mo (aB _ Jb) fun w1 ac ak af bV=>?_;(try simp at af))|(go_at_call 49;refine mo (cU _ Jb) fun w1 ac ak af bV=>?_;(try simp at af))|(go_at_call 50;refine mo (bF _ Jb) fun w1 ac ak af bV=>?_;(try simp at af)))
   go_roundw
   case rel=>exact⟨k+1,_,by omega,by go_num,rfl,HR.out,Jb⟩
   case measure=>simp [intOf];omega
  have ek:Jch q=false:=by unfold Jch;rw [if_neg q1,if_neg (by omega)]
  rw [ek] at aa;simp only [Bool.and_false,Bool.false_and] at aa
  cases b4
  ·have HR:=Lib.hid aa;clear aa hd hx
   go_wp2_with (first|(go_at_call 47;refine mo (Qt _ _) fun w1 ac ak af bV=>?_;(try simp at af))|(go_at_call 21;refine mo (aB _ Jb) fun w1 ac ak af bV=>?_;(try simp at af))|(go_at_call 49;refine mo (cU _ Jb) fun w1 ac ak af bV=>?_;(try simp at af))|(go_at_call 50;refine mo (bF _ Jb) fun w1 ac ak af bV=>?_;(try simp at af)))
   go_ret;exact⟨Jk HR.out,Jb⟩
  cases hn:Kz q.name
  ·have HR:=Lib.hid aa;clear aa hd hx
   go_wp2_with (first|(go_at_call 47;refine mo (Qt _ _) fun w1 ac ak af bV=>?_;(try simp at af))|(go_at_call 21;refine mo (aB _ Jb) fun w1 ac ak af bV=>?_;(try simp at af))|(go_at_call 49;refine mo (cU _ Jb) fun w1 ac ak af bV=>?_;(try simp at af))|(go_at_call 50;refine mo (bF _ Jb) fun w1 ac ak af bV=>?_;(try simp at af)))
   go_ret;exact⟨Jk HR.out,Jb⟩
  cases hr:(q.e.right == 0)
  ·have HR:=Lib.hid aa;clear aa hd hx
   go_wp2_with (first|(go_at_call 47;refine mo (Qt _ _) fun w1 ac ak af bV=>?_;(try simp at af))|(go_at_call 21;refine mo (aB _ Jb) fun w1 ac ak af bV=>?_;(try simp at af))|(go_at_call 49;refine mo (cU _ Jb) fun w1 ac ak af bV=>?_;(try simp at af))|(go_at_call 50;refine mo (bF _ Jb) fun w1 ac ak af bV=>?_;(try simp at af)))
   go_ret;exact⟨Jk HR.out,Jb⟩
  ·have HR:=Lib.hid aa;clear aa hd hx
   go_wp2_with (first|(go_at_call 47;refine mo (Qt _ _) fun w1 ac ak af bV=>?_;(try simp at af))|(go_at_call 21;refine mo (aB _ Jb) fun w1 ac ak af bV=>?_;(try simp at af))|(go_at_call 49;refine mo (cU _ Jb) fun w1 ac ak af bV=>?_;(try simp at af))|(go_at_call 50;refine mo (bF _ Jb) fun w1 ac ak af bV=>?_;(try simp at af)))
   go_ret;exact⟨Jk HR.out,Jb⟩
 have bk:k=p.eqs.length:=by omega
 rw [bk,List.drop_length,List.all_nil,Bool.and_true] at aa;have HR:=Lib.hid aa;clear aa bk
 go_wp2_with fail
 go_ret;exact⟨Jk HR.out,Jb⟩
end Go.Proofs.YtdgjplldlfeolaaGreatDoor
