/- Lemmas. -/
import Derived.Test.YtdgjplldlfeolaaGreatDoorZ10
set_option linter.unusedVariables false
set_option linter.unusedSimpArgs false
set_option maxRecDepth 100000
set_option maxHeartbeats 64000000
namespace Go.Proofs.YtdgjplldlfeolaaGreatDoor
open Go.RowKit Go.Sort
def X8 (p:Pr):ByteArray:=if K5 p=0 then Jal p else⟨#[]⟩
theorem Jh3 (p:Pr) (a:PrA) (w:World) (hp:Kr w p a) (n1:p.ins.length<=1000000) (n2:p.outs.length<=1000000) (n3:p.locals.length<=1000000) (n4:p.eqs.length<=1000000) :
  Calls Tryz.prog 8 #[prV p a] w fun r w'=>r = .returned (.tuple #[.string (X8 p),.int .i64 (K5 p)])/\Below w.heap.size w w':=by
 have bI:=hp.ins.len;have aD:=hp.outs.len;have fD:=hp.locals.len;have cG:=hp.eqs.len;unfold maxLen at bI aD fD cG;obtain⟨bI,iw⟩:=bI;obtain⟨aD,cI⟩:=aD;obtain⟨fD,kV⟩:=fD;obtain⟨cG,sS⟩:=cG;have gd:=fun W h=>Ju2 p a W (hp.later h);obtain⟨A1,c1,A2,c2,A3,c3,A4,c4⟩:=a;unfold prV at gd ⊢;dsimp only at *
 cases hw:Qw p
 ·have hv:K5 p=4:=by unfold K5;rw [hw];rfl
  have hs:X8 p=⟨#[]⟩:=by unfold X8;rw [hv];rfl
  have HS:=Lib.hid hs;clear hs;have HV:=Lib.hid hv;clear hv
  go_enter Tryz.func8,Tryz.ntmps8
  go_wp2_with (first|(go_at_call 22;refine mo (gd _ Jb) fun w1 ac ak af bV=>?_;(try simp at af)))
  go_ret2
  exact⟨by rw [HV.out,HS.out];rfl,Jb⟩
 obtain⟨aL,jT,jb,lj,qt⟩:=X4 hw;have hv:K5 p=if 4096<(Jal p).size then 3 else 0:=by unfold K5;rw [hw];rfl
 have HV:=Lib.hid hv;clear hv;have vS:=Lib.hid lj;clear lj;have qu:=Lib.hid qt;clear qt;have mC:=fun W h=>Jpo p.ins A1 c1 jT n1 W (hp.ins.later h);have mD:=fun W h=>Jpo p.outs A2 c2 jb n2 W (hp.outs.later h);have z1:=Jjv jT;have z2:=Jjv jb;clear jT jb;have HPB:=Lib.hid (show Jal p=Zs (Xr (if 0<p.locals.length then Ym p ++ ⟨#[118,97,114,10]⟩ else Ym p) p.locals ++ ⟨#[108,101,116,10]⟩) p.eqs ++ ⟨#[116,101,108,10]⟩ from rfl);have HHD:=Lib.hid (show Ym p=⟨#[110,111,100,101,32]⟩ ++ p.name ++ ⟨#[32]⟩ ++ Y9 p.ins ++ ⟨#[32,114,101,116,117,114,110,115,32]⟩ ++ Y9 p.outs ++ ⟨#[59,10]⟩ from rfl);have y1:¬9223372036854775807<5+p.name.size:=by omega
 have y2:¬9223372036854775807<5+p.name.size+1:=by omega
 have y3:¬9223372036854775807<5+p.name.size+1+(Y9 p.ins).size:=by omega
 have y4:¬9223372036854775807<5+p.name.size+1+(Y9 p.ins).size+9:=by omega
 have y5:¬9223372036854775807<5+p.name.size+1+(Y9 p.ins).size+9+(Y9 p.outs).size:=by omega
 have y6:¬9223372036854775807<5+p.name.size+1+(Y9 p.ins).size+9+(Y9 p.outs).size+2:=by omega
 generalize Y9 p.ins=t1 at *;generalize Y9 p.outs=t2 at *
 go_enter Tryz.func8,Tryz.ntmps8
 go_wp2_with (first|(go_at_call 22;refine mo (gd _ Jb) fun w1 ac ak af bV=>?_;(try simp at af)))
 have hy1':w.heap.size<w1.heap.size:=by omega
 refine Jx (by kernel_rfl) (by kernel_rfl) (fun bj=>?_)
 repeat (quiet_step ((first|(go_at_call_of 23 A1;exact Calls.regrown_of (mC _ Jb))|(go_at_call_of 23 A2;exact Calls.regrown_of (mD _ Jb)))))
 refine wpQuiet_nil ?_;intro wq au;replace au:=qbo au;obtain⟨au,dA,bh⟩:=au;clear bj
 (try simp at bh)
 by_cases qv:0<p.locals.length
 ·have qw:(if 0<p.locals.length then Ym p ++ ⟨#[118,97,114,10]⟩ else Ym p)=Ym p ++ ⟨#[118,97,114,10]⟩:=if_pos qv;have vT:=Lib.hid qw;clear qw
  go_wp2_with fail
  refine Jo fun W0 ag=>?_;have ax:Below w.heap.size w W0:=by rw [ag];exact Jb
  have bD:w.heap.size<W0.heap.size:=by rw [ag];omega
  have k4:W0.cell? ⟨w.heap.size,4,none⟩=some (.slice A4 p.eqs.length c4):=by rw [ag];go_simp
  clear ag;have ip:=hp.locals.later ax;have bT:=hp.eqs.later ax;dsimp only at ip bT
  go_loopw [4,35] (fun o i wr=>∃(k:Nat) (s:ByteArray),k<=p.locals.length/\i = .int .i64 k/\o = .string s/\s.size<=200000000+70 * k/\Xr s (p.locals.drop k)=Xr (Ym p ++ ⟨#[118,97,114,10]⟩) p.locals/\Below W0.heap.size W0 wr) (fun _ i _=>p.locals.length-(intOf i).toNat)
  case atStart=>exact⟨0,_,Nat.zero_le _,rfl,rfl,(by simp only [Kq,Ko,List.size_toArray,List.length_cons,List.length_nil];omega),by rw [HHD.out];rfl,Below.refl _ _⟩
  case round=>
   obtain⟨k,sx,hk,rfl,rfl,rV,aa,ab⟩:=hrel;have hc:=Jg ab;have bu:=ab.size
   by_cases am:k<p.locals.length
   ·obtain⟨x,hx,-,hd⟩:=Kl am;obtain⟨b,off,rfl,aH,⟨d0,d1,d2,d3⟩⟩:=(ip.later ab).get hx;rw [hd,Xr] at aa;have mn:=vS.out x (List.mem_of_getElem? hx);have hds:=Jc9 mn;have eA:=fun W=>Jpg x mn W;unfold vaV at eA;have HR:=Lib.hid aa;clear aa hd hx
    go_wp2_with (first|(go_at_call 24;refine mo (eA _) fun w1 ac ak af bV=>?_;(try simp at af)))
    go_roundw
    case rel=>exact⟨k+1,_,by omega,by go_num,rfl,(by simp only [Kq,Ko,List.size_toArray,List.length_cons,List.length_nil];omega),HR.out,Jb⟩
    case measure=>simp [intOf];omega
   ·have bk:k=p.locals.length:=by omega
    have dz:k<=1000000:=by omega
    rw [bk,List.drop_length,Xr] at aa;have HS:=Lib.hid aa;clear aa bk
    go_wp2_with fail
    go_loopw [4,51] (fun o i wr=>∃(k:Nat) (s:ByteArray),k<=p.eqs.length/\i = .int .i64 k/\o = .string s/\s.size<=400000000+20000 * k/\Zs s (p.eqs.drop k)=Zs (sx ++ ⟨#[108,101,116,10]⟩) p.eqs/\Below W0.heap.size W0 wr) (fun _ i _=>p.eqs.length-(intOf i).toNat)
    case atStart=>exact⟨0,_,Nat.zero_le _,rfl,rfl,(by simp only [Kq,Ko,List.size_toArray,List.length_cons,List.length_nil];omega),rfl,ab⟩
    case round=>
     obtain⟨k,s,hk,rfl,rfl,rV,aa,ab⟩:=hrel;have hc:=Jg ab;have bu:=ab.size
     by_cases am:k<p.eqs.length
     ·obtain⟨q,hx,-,hd⟩:=Kl am;obtain⟨b,off,B1,n1,B2,n2,rfl,aH,⟨g0,g1,g2,g3,g4,g5,g6,g7,g8,g9,s1,s2⟩⟩:=(bT.later ab).get hx;rw [hd,Zs,Jhz] at aa;obtain⟨qL,cM,ju,ji,cH⟩:=Jaq (qu.out q (List.mem_of_getElem? hx));have cE:=Ex.showB_size q.e cM;have bY:=fun W h=>Jhg q.e cM (by omega) B2 n2 W (s2.later h);have vU:=Lib.hid ji;clear ji;have tE:=Lib.hid cM;clear cM;unfold exV at bY
      rcases cH with cH|cH|cH
      ·rw [if_neg (by omega),if_neg (by omega)] at aa;have q1:(q.delay == 1)=false:=by rw [cH];rfl
       have q2:(q.delay == 2)=false:=by rw [cH];rfl
       clear cH;have HR:=Lib.hid aa;clear aa hd hx
       go_wp2_with (first|(go_at_call 25;refine mo (bY _ Jb) fun w1 ac ak af bV=>?_;(try simp at af)))
       go_roundw
       case rel=>exact⟨k+1,_,by omega,by go_num,rfl,(by simp only [Kq,Ko,List.size_toArray,List.length_cons,List.length_nil];omega),HR.out,Jb⟩
       case measure=>simp [intOf];omega
      ·rw [if_pos cH] at aa;have q1:(q.delay == 1)=true:=by rw [cH];rfl
       have q2:(q.delay == 2)=false:=by rw [cH];rfl
       obtain⟨jo,eh⟩:=vU.out cH;have rT:=Ex.showB_size q.first jo;have ee:=fun W h=>Jhg q.first jo (by omega) B1 n1 W (s1.later h);unfold exV at ee;have HFF:=Lib.hid jo;clear jo;clear cH;have HR:=Lib.hid aa;clear aa hd hx
       go_wp2_with (first|(go_at_call_of 25 B1;refine mo (ee _ Jb) fun w1 ac ak af bV=>?_;(try simp at af);(try have cA:b<w1.heap.size:=by omega))|(go_at_call_of 25 B2;refine mo (bY _ Jb) fun w1 ac ak af bV=>?_;(try simp at af);(try have cA:b<w1.heap.size:=by omega)))
       go_roundw
       case rel=>exact⟨k+1,_,by omega,by go_num,rfl,(by simp only [Kq,Ko,List.size_toArray,List.length_cons,List.length_nil];omega),HR.out,Jb⟩
       case measure=>simp [intOf];omega
      ·rw [if_neg (by omega),if_pos cH] at aa;have q1:(q.delay == 1)=false:=by rw [cH];rfl
       have q2:(q.delay == 2)=true:=by rw [cH];rfl
       clear cH;have HR:=Lib.hid aa;clear aa hd hx
       go_wp2_with (first|(go_at_call 25;refine mo (bY _ Jb) fun w1 ac ak af bV=>?_;(try simp at af)))
       go_roundw
       case rel=>exact⟨k+1,_,by omega,by go_num,rfl,(by simp only [Kq,Ko,List.size_toArray,List.length_cons,List.length_nil];omega),HR.out,Jb⟩
       case measure=>simp [intOf];omega
     ·have bk:k=p.eqs.length:=by omega
      have dU:k<=1000000:=by omega
      rw [bk,List.drop_length,Zs] at aa;have bH:Jal p=s ++ ⟨#[116,101,108,10]⟩:=by rw [HPB.out,vT.out,<-HS.out,<-aa]
      have iy:(Jal p).size=s.size+4:=by rw [bH,Kq];rfl
      clear bk aa
      by_cases dP:4096<s.size+4
      ·have hv:K5 p=3:=by rw [HV.out,if_pos (by omega)]
       have hs:X8 p=⟨#[]⟩:=by unfold X8;rw [hv];rfl
       have iz:=Lib.hid hs;clear hs;have bL:=Lib.hid hv;clear hv bH iy;have jc:(4096:Int)<s.size+4:=by omega
       go_wp2_with fail
       go_ret2
       exact⟨by rw [bL.out,iz.out];rfl,Jb⟩
      ·have hv:K5 p=0:=by rw [HV.out,if_neg (by omega)]
       have hs:X8 p=s ++ ⟨#[116,101,108,10]⟩:=by unfold X8;rw [hv,if_pos rfl,bH]
       have iz:=Lib.hid hs;clear hs;have bL:=Lib.hid hv;clear hv bH iy;have jc:¬(4096:Int)<s.size+4:=by omega
       go_wp2_with fail
       go_ret2
       exact⟨by rw [bL.out,iz.out];rfl,Jb⟩
 ·have qw:(if 0<p.locals.length then Ym p ++ ⟨#[118,97,114,10]⟩ else Ym p)=Ym p:=if_neg qv;have vT:=Lib.hid qw;clear qw
  go_wp2_with fail
  refine Jo fun W0 ag=>?_;have ax:Below w.heap.size w W0:=by rw [ag];exact Jb
  have bD:w.heap.size<W0.heap.size:=by rw [ag];omega
  have k4:W0.cell? ⟨w.heap.size,4,none⟩=some (.slice A4 p.eqs.length c4):=by rw [ag];go_simp
  clear ag;have ip:=hp.locals.later ax;have bT:=hp.eqs.later ax;dsimp only at ip bT
  go_loopw [4,35] (fun o i wr=>∃(k:Nat) (s:ByteArray),k<=p.locals.length/\i = .int .i64 k/\o = .string s/\s.size<=200000000+70 * k/\Xr s (p.locals.drop k)=Xr (Ym p) p.locals/\Below W0.heap.size W0 wr) (fun _ i _=>p.locals.length-(intOf i).toNat)
  case atStart=>exact⟨0,_,Nat.zero_le _,rfl,rfl,(by simp only [Kq,Ko,List.size_toArray,List.length_cons,List.length_nil];omega),by rw [HHD.out];rfl,Below.refl _ _⟩
  case round=>
   obtain⟨k,sx,hk,rfl,rfl,rV,aa,ab⟩:=hrel;have hc:=Jg ab;have bu:=ab.size
   by_cases am:k<p.locals.length
   ·exfalso;omega
   ·have bk:k=p.locals.length:=by omega
    have dz:k<=1000000:=by omega
    rw [bk,List.drop_length,Xr] at aa;have HS:=Lib.hid aa;clear aa bk
    go_wp2_with fail
    go_loopw [4,51] (fun o i wr=>∃(k:Nat) (s:ByteArray),k<=p.eqs.length/\i = .int .i64 k/\o = .string s/\s.size<=400000000+20000 * k/\Zs s (p.eqs.drop k)=Zs (sx ++ ⟨#[108,101,116,10]⟩) p.eqs/\Below W0.heap.size W0 wr) (fun _ i _=>p.eqs.length-(intOf i).toNat)
    case atStart=>exact⟨0,_,Nat.zero_le _,rfl,rfl,(by simp only [Kq,Ko,List.size_toArray,List.length_cons,List.length_nil];omega),rfl,ab⟩
    case round=>
     obtain⟨k,s,hk,rfl,rfl,rV,aa,ab⟩:=hrel;have hc:=Jg ab;have bu:=ab.size
     by_cases am:k<p.eqs.length
     ·obtain⟨q,hx,-,hd⟩:=Kl am;obtain⟨b,off,B1,n1,B2,n2,rfl,aH,⟨g0,g1,g2,g3,g4,g5,g6,g7,g8,g9,s1,s2⟩⟩:=(bT.later ab).get hx;rw [hd,Zs,Jhz] at aa;obtain⟨qL,cM,ju,ji,cH⟩:=Jaq (qu.out q (List.mem_of_getElem? hx));have cE:=Ex.showB_size q.e cM;have bY:=fun W h=>Jhg q.e cM (by omega) B2 n2 W (s2.later h);have vU:=Lib.hid ji;clear ji;have tE:=Lib.hid cM;clear cM;unfold exV at bY
      rcases cH with cH|cH|cH
      ·rw [if_neg (by omega),if_neg (by omega)] at aa;have q1:(q.delay == 1)=false:=by rw [cH];rfl
       have q2:(q.delay == 2)=false:=by rw [cH];rfl
       clear cH;have HR:=Lib.hid aa;clear aa hd hx
       go_wp2_with (first|(go_at_call 25;refine mo (bY _ Jb) fun w1 ac ak af bV=>?_;(try simp at af)))
       go_roundw
       case rel=>exact⟨k+1,_,by omega,by go_num,rfl,(by simp only [Kq,Ko,List.size_toArray,List.length_cons,List.length_nil];omega),HR.out,Jb⟩
       case measure=>simp [intOf];omega
      ·rw [if_pos cH] at aa;have q1:(q.delay == 1)=true:=by rw [cH];rfl
       have q2:(q.delay == 2)=false:=by rw [cH];rfl
       obtain⟨jo,eh⟩:=vU.out cH;have rT:=Ex.showB_size q.first jo;have ee:=fun W h=>Jhg q.first jo (by omega) B1 n1 W (s1.later h);unfold exV at ee;have HFF:=Lib.hid jo;clear jo;clear cH;have HR:=Lib.hid aa;clear aa hd hx
       go_wp2_with (first|(go_at_call_of 25 B1;refine mo (ee _ Jb) fun w1 ac ak af bV=>?_;(try simp at af);(try have cA:b<w1.heap.size:=by omega))|(go_at_call_of 25 B2;refine mo (bY _ Jb) fun w1 ac ak af bV=>?_;(try simp at af);(try have cA:b<w1.heap.size:=by omega)))
       go_roundw
       case rel=>exact⟨k+1,_,by omega,by go_num,rfl,(by simp only [Kq,Ko,List.size_toArray,List.length_cons,List.length_nil];omega),HR.out,Jb⟩
       case measure=>simp [intOf];omega
      ·rw [if_neg (by omega),if_pos cH] at aa;have q1:(q.delay == 1)=false:=by rw [cH];rfl
       have q2:(q.delay == 2)=true:=by rw [cH];rfl
       clear cH;have HR:=Lib.hid aa;clear aa hd hx
       go_wp2_with (first|(go_at_call 25;refine mo (bY _ Jb) fun w1 ac ak af bV=>?_;(try simp at af)))
       go_roundw
       case rel=>exact⟨k+1,_,by omega,by go_num,rfl,(by simp only [Kq,Ko,List.size_toArray,List.length_cons,List.length_nil];omega),HR.out,Jb⟩
       case measure=>simp [intOf];omega
     ·have bk:k=p.eqs.length:=by omega
      have dU:k<=1000000:=by omega
      rw [bk,List.drop_length,Zs] at aa;have bH:Jal p=s ++ ⟨#[116,101,108,10]⟩:=by rw [HPB.out,vT.out,<-HS.out,<-aa]
      have iy:(Jal p).size=s.size+4:=by rw [bH,Kq];rfl
      clear bk aa
      by_cases dP:4096<s.size+4
      ·have hv:K5 p=3:=by rw [HV.out,if_pos (by omega)]
       have hs:X8 p=⟨#[]⟩:=by unfold X8;rw [hv];rfl
       have iz:=Lib.hid hs;clear hs;have bL:=Lib.hid hv;clear hv bH iy;have jc:(4096:Int)<s.size+4:=by omega
       go_wp2_with fail
       go_ret2
       exact⟨by rw [bL.out,iz.out];rfl,Jb⟩
      ·have hv:K5 p=0:=by rw [HV.out,if_neg (by omega)]
       have hs:X8 p=s ++ ⟨#[116,101,108,10]⟩:=by unfold X8;rw [hv,if_pos rfl,bH]
       have iz:=Lib.hid hs;clear hs;have bL:=Lib.hid hv;clear hv bH iy;have jc:¬(4096:Int)<s.size+4:=by omega
       go_wp2_with fail
       go_ret2
       exact⟨by rw [bL.out,iz.out];rfl,Jb⟩
end Go.Proofs.YtdgjplldlfeolaaGreatDoor
