/- Lemmas. -/
import Derived.Test.YtknfcamdfdfoeaaGreatDoorMac
import Derived.Test.YtknfcamdfdfoeaaGreatDoorZ18
import Derived.Test.YtknfcamdfdfoeaaGreatDoorZ28
import Derived.Test.YtknfcamdfdfoeaaGreatDoorZ21
import Derived.Deep.RegionLaw
import Derived.Deep.CutRange
set_option linter.unusedVariables false
set_option linter.unusedSimpArgs false
set_option maxRecDepth 100000
set_option maxHeartbeats 64000000
namespace Go.Proofs.YtknfcamdfdfoeaaGreatDoor
open Go.RowKit
structure Im where
 ver:Int
 fro:Int
 eld:Int
 fr:Fr
 first:List Int
 step:List (Int×Int)
 move:List (Int×Int)
 sf:Int
 mf:Int
def Fr.zero:Fr:=⟨0,0,0,0,0⟩
def Im.zero:Im:=⟨0,0,0,Fr.zero,[],[],[],0,0⟩
def Jcj (c:List (Int×Int)) (f:Fr) (fuel:Int):Int:=if (Yi c f).2.1=0/\(Yi c f).1.2≠fuel then 14 else(Yi c f).2.1
def Im.moves (m:Im):Fr:=⟨0,m.eld,m.fr.n,0,0⟩
def Im.wrong (m:Im):Int:=
 if m.ver=0\/m.ver<=m.fro\/m.eld<0\/16<m.eld then 1
 else if m.fr.o≠m.fr.n\/(m.first.length:Int)≠m.fr.n then 1
 else if m.fro=0/\(0<m.eld\/0<m.move.length) then 1
 else if Jcj m.step m.fr m.sf≠0 then Jcj m.step m.fr m.sf
 else Jcj m.move m.moves m.mf
def Ju8 (m:Im):List Int:=
 [77,73,68,83] ++ leB 4 m.ver.toNat ++ leB 4 m.fro.toNat ++ leB 1 m.eld.toNat ++ leB 1 m.fr.s.toNat ++ leB 1 m.fr.n.toNat ++ leB 1 m.fr.i.toNat ++ leB 1 m.fr.u.toNat ++ leB 2 m.sf.toNat ++ leB 2 m.mf.toNat
def Jba (m:Im):List Int:=Ju8 m ++ Jcs (Je9 m.first) ++ Jcs (Ja7 m.step) ++ Jcs (Ja7 m.move)
def Jdl (m:Im):List Int×Int:=if m.wrong≠0 then([],m.wrong) else if 2016<(Jba m).length then([],3) else(Jba m,0)
theorem Juv {f:Fr} {n:Nat} : ∀(c:List (Int×Int)) (k:Nat) (ps:List Pl) (dep:Int),Jaa k n dep ps->(goJ f n k c ps dep).2.1=0->
  (∀i∈c,Qj i=0)/\0<=(goJ f n k c ps dep).1.1/\(goJ f n k c ps dep).1.1<=16/\0<=(goJ f n k c ps dep).1.2/\(goJ f n k c ps dep).1.2<=((k+c.length:Nat):Int)
 | [],k,ps,dep,h,h0=>by
  rw [goJ] at h0 ⊢;have hg:=h.get n;have hd:=h.dep0
  split at h0
  ·exact absurd (show(12:Int)=0 from h0) Ux
  ·rename_i hz;rw [if_neg hz];exact⟨Ul,hd.1,hd.2,hg.2.2.1,by simpa using hg.2.2.2.1⟩
 | i :: c,k,ps,dep,h,h0=>by
  rw [goJ] at h0 ⊢
  by_cases h1:(Jct f k i ps dep).1≠0
  ·rw [if_pos h1] at h0;exact absurd h0 h1
  ·rw [if_neg h1] at h0 ⊢;have h2:(Jct f k i ps dep).1=0:=Lw;obtain⟨g1,g2,g3,g4,g5⟩:=Juv c (k+1) _ _ (h.one h2) h0;refine⟨fun j hj=>?_,g2,g3,g4,by rw [Nl];omega⟩
   rcases List.mem_cons.1 hj with rfl|hj
   ·unfold Jct at h2
    split at h2
    ·exact h2
    ·rename_i hh;simpa using hh
   ·exact g1 j hj
theorem Jt5 {c:List (Int×Int)} {f:Fr} (h:(Yi c f).2.1=0):f.good=true/\c.length<=600/\(∀i∈c,Qj i=0)/\0<=(Yi c f).1.1/\(Yi c f).1.1<=16/\0<=(Yi c f).1.2/\(Yi c f).1.2<=(c.length:Int):=by
 unfold Yi at h ⊢
 by_cases h1:f.good=false
 ·rw [if_pos h1] at h;exact absurd h Ux
 ·rw [if_neg h1] at h ⊢
  by_cases h2:600<c.length
  ·rw [if_pos h2] at h;exact absurd h Ux
  ·rw [if_neg h2] at h ⊢;obtain⟨g1,g2⟩:=Juv c 0 _ _ (Jaa.start c.length) h;exact⟨Lw,Ua,g1,by simpa using g2⟩
theorem Fr.good_iff {f:Fr} : f.good=true<->(0<=f.s/\f.s<=24)/\(0<=f.o/\f.o<=16)/\(0<=f.n/\f.n<=16)/\(0<=f.i/\f.i<=8)/\(0<=f.u/\f.u<=8):=by
 unfold Fr.good inB;simp [and_assoc]
structure Im.Right (m:Im):Prop where
 ver:m.ver≠0/\m.fro<m.ver
 eld:0<=m.eld/\m.eld<=16
 fr:m.fr.good=true
 old:m.fr.o=m.fr.n/\(m.first.length:Int)=m.fr.n
 step:m.step.length<=600/\(∀i∈m.step,Qj i=0)/\0<=m.sf/\m.sf<=600
 move:m.move.length<=600/\(∀i∈m.move,Qj i=0)/\0<=m.mf/\m.mf<=600
theorem Jmp {c:List (Int×Int)} {f:Fr} {fuel:Int} (h:Jcj c f fuel=0):f.good=true/\c.length<=600/\(∀i∈c,Qj i=0)/\0<=fuel/\fuel<=600:=by
 unfold Jcj at h
 split at h
 ·exact absurd h Ux
 ·rename_i hn;obtain⟨g1,g2,g3,g4,g5,g6,g7⟩:=Jt5 h
  have:(Yi c f).1.2=fuel:=by
   by_cases he:(Yi c f).1.2=fuel
   ·exact he
   ·exact absurd ⟨h,he⟩ hn
  exact⟨g1,g2,g3,Ua,Ua⟩
theorem Im.right {m:Im} (h:m.wrong=0):m.Right:=by
 unfold Im.wrong at h
 split at h
 ·exact absurd h Ux
 split at h
 ·exact absurd h Ux
 split at h
 ·exact absurd h Ux
 split at h
 ·rename_i hn;exact absurd h hn
 ·rename_i h1 h2 h3 h4;obtain⟨a1,a2,a3,a4,a5⟩:=Jmp (by simpa using h4);obtain⟨b1,b2,b3,b4,b5⟩:=Jmp h;exact⟨Ua,Ua,a1,Ua,⟨a2,a3,a4,a5⟩,⟨b2,b3,b4,b5⟩⟩
theorem Kcg (m:Im):(Ju8 m).length=21:=by simp [Ju8,Y4]
theorem Kcq (m:Im):(Jba m).length=27+4 * m.first.length+(Ja7 m.step).length+(Ja7 m.move).length:=by
 simp [Jba,Jcs,Kcg,Y4,Jsn];omega
def Jke (p:Pr):Fr:=⟨(Je p).length,(Jq p).length,(Jq p).length,p.ins.length,p.outs.length⟩
def Jd8 (p:Pr) (v:Int):Im:=⟨v,0,0,Jke p,(Jq p).map (·.first),Xs p,[],(Yi (Xs p) (Jke p)).1.2,0⟩
def imE (p:Pr) (v:Int):Im×(Int×Int×Int):=
 if (Xg p).2.2≠(0,0,0) then(Im.zero,(Xg p).2.2)
 else if v=0 then(Im.zero,(4,0,1))
 else if (Jdl (Jd8 p v)).2≠0 then(Im.zero,(4,0,(Jdl (Jd8 p v)).2))
 else(Jd8 p v,(0,0,0))
end Go.Proofs.YtknfcamdfdfoeaaGreatDoor
namespace Go.Proofs.YtknfcamdfdfoeaaGreatDoor
open Go.RowKit Go.Sort
theorem Jln (a:Int) (w:World):Calls Tryz.prog 98 #[.int .i32 a] w fun r w'=>r = .returned (.int .u32 (Xh a:Nat))/\w'=w:=by
 have hv:IntKind.u32.wrap a=((Xh a:Nat):Int):=by
  unfold Xh;simp [IntKind.wrap,IntKind.bits,IntKind.signed];omega
 go_enter Tryz.func98,Tryz.ntmps98
 go_wp2_with fail
 go_ret;exact⟨by simp [hv],rfl⟩
def Y8 (w:World) (l:List Int) (r:Ending) (w':World):Prop:=(∃v,r = .returned (.tuple #[v,.int .i64 0])/\w'.ownsRow w.heap.size 5 1 v l.length (byU l))/\Below w.heap.size w w'
theorem Jm0 (l:List Int) (A:Option Addr) (cap n:Nat) (w:World) (hb:Qc w (byU l) l.length A cap) (hl:l.length<=100000) (hn:n<256) :
  Calls Tryz.prog 95 #[.slice A l.length cap,.int .i64 1,.int .u64 n] w (Y8 w (l ++ leB 1 n)):=by
 unfold Y8
 have hz:((n:Int) / 256 != 0)=false:=by
  have:(n:Int) / 256=0:=Ua;rw [this];rfl
 have jH:=fun W:World=>run_make (P:=Tryz.prog) W 98 5 (Tryz.prog.info? 5).get! (.int .u8 0) Tryz.underlying98 Ug Ug .i64 .i64 (l.length:Int) ((l.length:Int)+1) Ua Ua Ll Ua;rw [show(Tryz.prog.info? 5).get!.size=1 by kernel_rfl] at jH;simp only [show((l.length:Int)+1).toNat=l.length+1 by omega,show((l.length:Int)).toNat=l.length by omega,Nat.mul_one] at jH;have ij:=Ji3 l;have eg:=hb.ads;have HCP:=Nf eg;clear hb eg
 go_enter Tryz.func95,Tryz.ntmps95
 go_wp2_with ((refine wpList_copy_splice rfl (.tmp 33) (.tmp 34) 98 98 rfl 5 Tryz.underlying98 Ug _ _ l.length (l.length+1) l.length cap rfl rfl w.heap.size 0 (madeCells (Value.int .u8 0).cells (l.length+1)).toList 5 F3 (byU l) Dl (fun h0=>⟨rfl,HCP.out _ (Jc (Nt) _) h0⟩) Fd (Jgm l) w.heap.size w (Jc (Nt) _) (Ns _) ?_;intro w1 ay ac))
 have eo:=Jgt (base:=w.heap.size) ay (Ns _) (show l.length<=l.length+1 by omega) U2 ij Gp;clear ay
 go_loopw [8,37] (fun v i wr=>∃k:Nat,k<=1/\i = .int .i64 k/\wr.ownsRow w.heap.size 5 1 v (l.length+k) (byU (l ++ leB k n))/\Below w.heap.size w wr) (fun _ i _=>1-(intOf i).toNat)
 case atStart=>exact⟨0,Ua,rfl,by simpa [leB] using eo,ac⟩
 case round=>
  obtain⟨k,hk,rfl,ae,ab⟩:=hrel;have hz:=ab.size;obtain⟨A2,c2,rfl,ak,dm⟩:=Jv ae;unfold maxLen at dm
  by_cases am:k<1
  ·exact Uei
  ·obtain rfl:k=1:=Ua
   go_wp2_with fail
   go_ret2
   exact⟨⟨_,rfl,Dk⟩,ab⟩
theorem Jig (l:List Int) (A:Option Addr) (cap n:Nat) (w:World) (hb:Qc w (byU l) l.length A cap) (hl:l.length<=100000) (hn:n<65536) :
  Calls Tryz.prog 95 #[.slice A l.length cap,.int .i64 2,.int .u64 n] w (Y8 w (l ++ leB 2 n)):=by
 unfold Y8
 have hz:((n:Int) / 65536 != 0)=false:=by
  have:(n:Int) / 65536=0:=Ua;rw [this];rfl
 have jH:=fun W:World=>run_make (P:=Tryz.prog) W 98 5 (Tryz.prog.info? 5).get! (.int .u8 0) Tryz.underlying98 Ug Ug .i64 .i64 (l.length:Int) ((l.length:Int)+2) Ua Ua Ll Ua;rw [show(Tryz.prog.info? 5).get!.size=1 by kernel_rfl] at jH;simp only [show((l.length:Int)+2).toNat=l.length+2 by omega,show((l.length:Int)).toNat=l.length by omega,Nat.mul_one] at jH;have ij:=Ji3 l;have eg:=hb.ads;have HCP:=Nf eg;clear hb eg
 go_enter Tryz.func95,Tryz.ntmps95
 go_wp2_with ((refine wpList_copy_splice rfl (.tmp 33) (.tmp 34) 98 98 rfl 5 Tryz.underlying98 Ug _ _ l.length (l.length+2) l.length cap rfl rfl w.heap.size 0 (madeCells (Value.int .u8 0).cells (l.length+2)).toList 5 F3 (byU l) Dl (fun h0=>⟨rfl,HCP.out _ (Jc (Nt) _) h0⟩) Fd (Jgm l) w.heap.size w (Jc (Nt) _) (Ns _) ?_;intro w1 ay ac))
 have eo:=Jgt (base:=w.heap.size) ay (Ns _) (show l.length<=l.length+2 by omega) U2 ij Gp;clear ay
 go_loopw [8,37] (fun v i wr=>∃k:Nat,k<=2/\i = .int .i64 k/\wr.ownsRow w.heap.size 5 1 v (l.length+k) (byU (l ++ leB k n))/\Below w.heap.size w wr) (fun _ i _=>2-(intOf i).toNat)
 case atStart=>exact⟨0,Ua,rfl,by simpa [leB] using eo,ac⟩
 case round=>
  obtain⟨k,hk,rfl,ae,ab⟩:=hrel;have hz:=ab.size;obtain⟨A2,c2,rfl,ak,dm⟩:=Jv ae;unfold maxLen at dm
  by_cases am:k<2
  ·exact Uei
  ·obtain rfl:k=2:=Ua
   go_wp2_with fail
   go_ret2
   exact⟨⟨_,rfl,Dk⟩,ab⟩
theorem Jnb (l:List Int) (A:Option Addr) (cap n:Nat) (w:World) (hb:Qc w (byU l) l.length A cap) (hl:l.length<=100000) (hn:n<4294967296) :
  Calls Tryz.prog 95 #[.slice A l.length cap,.int .i64 4,.int .u64 n] w (Y8 w (l ++ leB 4 n)):=by
 unfold Y8
 have hz:((n:Int) / 4294967296 != 0)=false:=by
  have:(n:Int) / 4294967296=0:=Ua;rw [this];rfl
 have jH:=fun W:World=>run_make (P:=Tryz.prog) W 98 5 (Tryz.prog.info? 5).get! (.int .u8 0) Tryz.underlying98 Ug Ug .i64 .i64 (l.length:Int) ((l.length:Int)+4) Ua Ua Ll Ua;rw [show(Tryz.prog.info? 5).get!.size=1 by kernel_rfl] at jH;simp only [show((l.length:Int)+4).toNat=l.length+4 by omega,show((l.length:Int)).toNat=l.length by omega,Nat.mul_one] at jH;have ij:=Ji3 l;have eg:=hb.ads;have HCP:=Nf eg;clear hb eg
 go_enter Tryz.func95,Tryz.ntmps95
 go_wp2_with ((refine wpList_copy_splice rfl (.tmp 33) (.tmp 34) 98 98 rfl 5 Tryz.underlying98 Ug _ _ l.length (l.length+4) l.length cap rfl rfl w.heap.size 0 (madeCells (Value.int .u8 0).cells (l.length+4)).toList 5 F3 (byU l) Dl (fun h0=>⟨rfl,HCP.out _ (Jc (Nt) _) h0⟩) Fd (Jgm l) w.heap.size w (Jc (Nt) _) (Ns _) ?_;intro w1 ay ac))
 have eo:=Jgt (base:=w.heap.size) ay (Ns _) (show l.length<=l.length+4 by omega) U2 ij Gp;clear ay
 go_loopw [8,37] (fun v i wr=>∃k:Nat,k<=4/\i = .int .i64 k/\wr.ownsRow w.heap.size 5 1 v (l.length+k) (byU (l ++ leB k n))/\Below w.heap.size w wr) (fun _ i _=>4-(intOf i).toNat)
 case atStart=>exact⟨0,Ua,rfl,by simpa [leB] using eo,ac⟩
 case round=>
  obtain⟨k,hk,rfl,ae,ab⟩:=hrel;have hz:=ab.size;obtain⟨A2,c2,rfl,ak,dm⟩:=Jv ae;unfold maxLen at dm
  by_cases am:k<4
  ·exact Uei
  ·obtain rfl:k=4:=Ua
   go_wp2_with fail
   go_ret2
   exact⟨⟨_,rfl,Dk⟩,ab⟩
theorem Jq2 (l x:List Int) (A:Option Addr) (cap:Nat) (A2:Option Addr) (cap2:Nat) (w:World) (hb:Qc w (byU l) l.length A cap) (hx:Qc w (byU x) x.length A2 cap2) (hl:l.length<=100000) (hn:x.length<=65535) :
  Calls Tryz.prog 97 #[.slice A l.length cap,.slice A2 x.length cap2] w (Y8 w (l ++ Jcs x)):=by
 unfold Y8;have iF:=fun W h=>Jig l A cap x.length W (hb.later h) hl Ua;unfold Y8 at iF;have hx1:=hx.1;have qh:=hx.2.1;unfold maxLen at qh;have cY:(l ++ leB 2 x.length).length=l.length+2:=by rw [Nk,Y4]
 rw [cY] at iF
 have ky:IntKind.u64.wrap (x.length:Int)=(x.length:Int):=by
  exact Uc8
 have HX:=Nf hx;clear hb hx cY
 go_enter Tryz.func97,Tryz.ntmps97
 go_wp2_with (first
  | (go_at_call 95;refine(iF _ Jb).mono ?_;rintro r w1 ⟨⟨v,rfl,ae⟩,ac⟩;have af:=ac.size)
  | (at_builtin;go_loud (refine K6 rfl (.tmp 22) (.tmp 23) 98 rfl w.heap.size 5 _ 1 1 Tryz.underlying98 Jgl rfl Ua v (l.length+2) (byU (l ++ leB 2 x.length)) A2 x.length cap2 (byU x) rfl ae rfl (HX.out.later Jb).2.2 (Jgm _) Ua Ua Ua ?_;intro v2 w2 ao aq)))
 go_ret2
 exact⟨⟨v2,rfl,by unfold Jcs;rw [<-List.append_assoc,Jeu (l ++ leB 2 x.length),show(l ++ leB 2 x.length ++ x).length=l.length+2+x.length by simp [Y4];omega];exact ao⟩,ac.trans aq⟩
def Jax (l:List Nat):List Int:=l.flatMap (leB 4)
theorem Jrv (l:List Nat):(Jax l).length=4 * l.length:=by
 unfold Jax
 induction l with
 | nil=>rfl
 | cons x l ih=>rw [List.flatMap_cons,Nk,ih,Y4,Nl];omega
theorem Jqi (l:List Nat) (x:Nat):Jax (l ++ [x])=Jax l ++ leB 4 x:=by unfold Jax;simp
theorem Kaj (x:Nat):byU (leB 4 x) = [.int .u8 ((x:Int) % 256),.int .u8 ((x:Int) / 256 % 256),.int .u8 ((x:Int) / 65536 % 256),.int .u8 ((x:Int) / 16777216 % 256)]:=by
 simp only [leB,byU,List.map_cons,List.map_nil];rw [Nat.div_div_eq_div_mul,Nat.div_div_eq_div_mul];exact Ul
theorem Jtd (l:List Nat) (A:Option Addr) (cap:Nat) (w:World) (hb:Qc w (wdU l) l.length A cap) (hl:l.length<=1000) (hx:∀x∈l,x<4294967296) :
  Calls Tryz.prog 99 #[.slice A l.length cap] w fun r w'=>(∃v,r = .returned v/\w'.ownsRow w.heap.size 5 1 v (Jax l).length (byU (Jax l)))/\Below w.heap.size w w':=by
 have jH:=fun W:World=>run_make (P:=Tryz.prog) W 98 5 (Tryz.prog.info? 5).get! (.int .u8 0) Tryz.underlying98 Ug Ug .i64 .i64 0 (4 * (l.length:Int)) Ua Ua Ll Ua;rw [show(Tryz.prog.info? 5).get!.size=1 by kernel_rfl] at jH;simp only [show(4 * (l.length:Int)).toNat=4 * l.length by omega,show(0:Int).toNat=0 by omega,Nat.mul_one] at jH;have ac:=hb.1;have aq:=hb.2.1;unfold maxLen at aq;have HB:=Nf hb;have HX:=Nf hx;clear hb hx
 go_enter Tryz.func99,Tryz.ntmps99
 go_wp2_with fail
 go_loopw [3,12] (fun v i wr=>∃k:Nat,k<=l.length/\i = .int .i64 k/\wr.ownsRow w.heap.size 5 1 v (4 * k) (byU (Jax (l.take k)))/\Below w.heap.size w wr) (fun _ i _=>l.length-(intOf i).toNat)
 case atStart=>
  refine⟨0,Ua,rfl,?_,Jc (Nt) _⟩;exact⟨rfl,.inr ⟨w.heap.size,4 * l.length,_,rfl,Ns _,heap_alloc_new w _,Ua,U2,by rw [size_madeCells];omega,by simp [Jax,byU]⟩⟩
 case round=>
  obtain⟨k,hk,rfl,ae,ab⟩:=hrel;have hz:=ab.size;obtain⟨A2,c2,rfl,ak,dm⟩:=Jv ae;unfold maxLen at dm
  by_cases am:k<l.length
  ·have hx:l[k]?=some l[k]:=Ng am;have aP:l.take (k+1)=l.take k ++ [l[k]]:=U6;have jN:=HX.out l[k] (Nj am);generalize l[k]=x at hx aP jN;obtain⟨b,off,rfl,aH,ev⟩:=(HB.out.later ab).get (Jyh hx)
   have nn:byU (Jax (l.take (k+1)))=byU (Jax (l.take k)) ++ [.int .u8 ((x:Int) % 256),.int .u8 ((x:Int) / 256 % 256),.int .u8 ((x:Int) / 65536 % 256),.int .u8 ((x:Int) / 16777216)]:=by
    rw [aP,Jqi,Jeu,Kaj,show(x:Int) / 16777216 % 256=(x:Int) / 16777216 by omega]
   have vC:=Nf nn;clear nn aP hx
   go_wp2_with (at_builtin;go_loud (refine K6 rfl (.tmp 16) (.tmp 28) 98 rfl w.heap.size 5 _ 1 1 Tryz.underlying98 Jgl rfl Ua (.slice A2 (4 * k) c2) (4 * k) (byU (Jax (l.take k))) (some ⟨wr.heap.size,0,none⟩) 4 4 [.int .u8 ((x:Int) % 256),.int .u8 ((x:Int) / 256 % 256),.int .u8 ((x:Int) / 65536 % 256),.int .u8 ((x:Int) / 16777216)] rfl Udk rfl ⟨rfl,fun _=>⟨wr.heap.size,0,rfl,fun j u hj=>by rw [Nat.zero_add,Kw];simpa using hj⟩⟩ Uv Ua Ua U7 ?_);intro v2 w2 ao aq)
   go_roundw
   case rel=>exact⟨k+1,Ua,Up,Sm,(Jc ab _).trans aq⟩
   case measure=>simp [intOf];omega
  ·obtain rfl:k=l.length:=Ua;rw [List.take_length] at ae
   go_wp2_with fail
   go_ret;exact⟨⟨_,rfl,by rw [Jrv];exact ae⟩,ab⟩
theorem Ju4 {op N:Int} (h:Qj (op,N)=0) (hN:I32 N):Qp op=4/\op=1\/Qp op=2/\(Xh N:Int)=N/\N<=65535\/Qp op=1/\(Xh N:Int)=N/\N<=255:=by
 unfold I32 at hN;unfold Qj at h;dsimp only at h;unfold Xh
 by_cases h0:Qp op=0
 ·rw [if_pos h0] at h;exact absurd h Ux
 rw [if_neg h0] at h
 by_cases h4:Qp op=4
 ·left
  refine⟨h4,?_⟩;unfold Qp at h4
  repeat' split at h4
  all_goals omega
 rw [if_neg h4] at h
 by_cases h8:op=8/\(N<1\/2<N)
 ·rw [if_pos h8] at h;exact absurd h Ux
 rw [if_neg h8] at h
 by_cases h9:op=9/\(N<1\/16<N)
 ·rw [if_pos h9] at h;exact absurd h Ux
 rw [if_neg h9] at h
 by_cases h2:Qp op=2/\(N<0\/65535<N)
 ·rw [if_pos h2] at h;exact absurd h Ux
 rw [if_neg h2] at h
 by_cases h1:Qp op=1/\(N<0\/255<N)
 ·rw [if_pos h1] at h;exact absurd h Ux
 have hw:=Jlt op
 have h3:Qp op≠3:=by
  unfold Qp
  repeat' split
  all_goals omega
 exact Ua
theorem Jka (W:World) (c:Array Value) (t:TypeId) {u:Int} (hc:c = #[.int .u8 u]):Qc (W.alloc (.cells c t)) (byU [u]) 1 (some ⟨W.heap.size,0,none⟩) 1:=by
 subst hc;refine⟨Ns _,U2,rfl,fun _=>⟨W.heap.size,0,rfl,fun j u hj=>?_⟩⟩;rw [Nat.zero_add,Kw];simpa [byU] using hj
theorem Js5 (op N:Int) (w:World) (h:Qj (op,N)=0) (hN:I32 N) (jf:1<=op/\op<=11) :
  Calls Tryz.prog 124 #[.agg #[.int .i64 op,.int .i32 N]] w (Y8 w (Jdm (op,N))):=by
 have aB:=fun w=>Jlr op N w;unfold Jby at aB;rw [h] at aB
 have ky:IntKind.u8.wrap op=op:=by
  exact Uc8
 have dS:=Jne N
 have nL:IntKind.u64.wrap ((Xh N:Nat):Int)=((Xh N:Nat):Int):=by
  exact Uc8
 have iF:∀(g:Nat) (W:World),Qc W (byU [op]) 1 (some ⟨g,0,none⟩) 1->Calls Tryz.prog 95 #[.slice (some ⟨g,0,none⟩) 1 1,.int .i64 (Qp op),.int .u64 (Xh N:Nat)] W (Y8 W (Jdm (op,N))):=by
  intro g W hc;unfold Jdm
  rcases Ju4 h hN with ⟨h1,_⟩|⟨h1,h2,h3⟩|⟨h1,h2,h3⟩
  ·dsimp only;rw [h1];exact Jnb [op] (some ⟨g,0,none⟩) 1 (Xh N) W hc Ul Ua
  ·dsimp only;rw [h1];exact Jig [op] (some ⟨g,0,none⟩) 1 (Xh N) W hc Ul Ua
  ·dsimp only;rw [h1];exact Jm0 [op] (some ⟨g,0,none⟩) 1 (Xh N) W hc Ul Ua
 have kT:=Nf iF;have cO:=fun W=>Jdz op W;have mh:=fun W=>Jln N W;generalize Jdm (op,N)=bs at *;clear h hN iF;unfold Y8
 go_enter Tryz.func124,Tryz.ntmps124
 go_wp2_with (first|(go_at_call 89;refine mo (aB _) fun w1 ac ak af bV=>?_;(try simp at af)))
 refine Jo fun W0 ag=>?_;have q0:=Na W0 w.heap.size 0 op Uc;have q1:=Nb W0 w.heap.size 1 (.int .i32 N) Uc;have aC:=Nd w W0 Uo;have hz:=aC.size;have su:=Nu q0;clear ag;have hS:∀w',Below W0.heap.size W0 w'->w'.cell? ⟨w.heap.size,0,none⟩=some (.int .i64 op)/\w'.cell? ⟨w.heap.size,1,none⟩=some (.int .i32 N):=fun w' hb=>⟨Ja hb q0,Ja hb q1⟩;have HS:=Nf hS;have ar:=hS W0.drew (Jh (Nt));have lA:Below W0.heap.size W0 W0.drew:=Jh (Nt);have hds:W0.drew.heap.size=W0.heap.size:=rfl;clear hS q0 q1 su;refine Kd (fun w'=>w'.cell? ⟨w.heap.size,0,none⟩=some (.int .i64 op)/\w'.cell? ⟨w.heap.size,1,none⟩=some (.int .i32 N)) 14 2 Ug Gd ?_;simp only [List.size_toArray,Nl,Nm,Nat.zero_add,Nat.reduceAdd];refine Ji 0 ar ?_;refine Ji 1 ar ?_;refine Ji 2 ar ?_;refine Ji 4 ar ?_;refine Ji 5 ar ?_;refine Ji 7 ar ?_;refine Ji 8 ar ?_;refine Jfe (i:=3) (j:=6) Ug Um Um rfl rfl ?_ ?_
 ·refine Jj fun K hK=>?_;go_simp;refine hK _ _ ⟨HS.out _ (Jh (Jc (Nt) _)),?_⟩;clear hK K
  try simp only [Act.put,sa1,sa2,sa3]
  refine Kb 6 ?_;refine Jj fun K hK=>?_;go_simp;refine(cO _).mono ?_;rintro r wf ⟨rfl,bZ⟩;dsimp only;have cT:=Nd W0 wf (Jd (Jh (Jc (Nt) _)) bZ);refine hK _ _ ⟨HS.out wf cT,?_⟩;clear hK K
  try simp only [Act.put,sa1,sa2,sa3]
  have hcel:Qc wf (byU [op]) 1 (some ⟨W0.heap.size,0,none⟩) 1:=((Jka W0 #[.int .u8 op] 5 rfl).later (Jh (Nt))).later bZ;refine Kb 9 ?_;refine Jj fun K hK=>?_;go_simp;refine(mh _).mono ?_;rintro r wp ⟨rfl,tF⟩;dsimp only;subst tF;refine hK _ _ ⟨HS.out _ cT,?_⟩;clear hK K
  try simp only [Act.put,sa1,sa2,sa3]
  have dr:=HS.out _ cT;refine Ji 10 dr ?_;refine Kb 11 ?_;refine Jj fun K hK=>?_;go_simp;refine(kT.out _ _ hcel).mono ?_;rintro r wz ⟨⟨v,rfl,ae⟩,gt⟩;dsimp only;have cF:=Nd W0 wz (Jd cT gt);refine hK _ _ ⟨HS.out wz cF,?_⟩;clear hK K
  try simp only [Act.put,sa1,sa2,sa3]
  have eI:=cT.size;have dk:=HS.out wz cF;refine Ji 12 dk ?_;refine Ji 13 dk ?_;refine Kh Ug ?_;refine Qx 14 ?_;refine Jj fun K hK=>?_;go_simp;refine hK _ _ ?_;clear hK K
  try simp only [Act.put,sa1,sa2,sa3]
  refine Qx 15 ?_;refine Jj fun K hK=>?_;go_simp;refine hK _ _ ?_;clear hK K
  try simp only [Act.put,sa1,sa2,sa3]
  refine Ki Ug ?_;have jh:=Nd w wz (Jd aC cF);have fN:=K8 ae (show w.heap.size<=_ by first|omega|(simp;omega));clear ar dr dk kT
  go_wp2_with fail
  go_ret2
  exact⟨⟨_,rfl,fN⟩,jh⟩
 ·refine Jj fun K hK=>?_;go_simp;refine(cO _).mono ?_;rintro r wf ⟨rfl,bZ⟩;dsimp only;have cT:=Nd W0 wf (Jd lA bZ);refine hK _ _ ⟨HS.out wf cT,?_⟩;clear hK K
  try simp only [Act.put,sa1,sa2,sa3]
  have dr:=HS.out _ cT;have eI:=cT.size;refine Jfe (i:=3) (j:=9) Ug Um Um rfl rfl ?_ ?_
  ·refine Jj fun K hK=>?_;go_simp;refine hK _ _ ⟨HS.out _ (Jc cT _),?_⟩;clear hK K
   try simp only [Act.put,sa1,sa2,sa3]
   refine Kb 9 ?_;refine Jj fun K hK=>?_;go_simp;refine(mh _).mono ?_;rintro r wp ⟨rfl,tF⟩;dsimp only;subst tF;refine hK _ _ ⟨HS.out _ (Jc cT _),?_⟩;clear hK K
   try simp only [Act.put,sa1,sa2,sa3]
   refine Ji 10 (HS.out _ (Jc cT _)) ?_;exact Bn
  ·refine Jj fun K hK=>?_;go_simp;refine(mh _).mono ?_;rintro r wp ⟨rfl,tF⟩;dsimp only;subst tF;refine hK _ _ ⟨HS.out _ cT,?_⟩;clear hK K
   try simp only [Act.put,sa1,sa2,sa3]
   refine Ji 10 dr ?_;refine Kb 3 ?_;refine Jj fun K hK=>?_;go_simp;refine hK _ _ ⟨HS.out _ (Jc cT _),?_⟩;clear hK K
   try simp only [Act.put,sa1,sa2,sa3]
   exact Bn
def frV (f:Fr):Value:= .agg #[.int .i64 f.s,.int .i64 f.o,.int .i64 f.n,.int .i64 f.i,.int .i64 f.u]
theorem Jyr (n m:Int) (w:World):Calls Tryz.prog 88 #[.int .i64 n,.int .i64 m] w fun r w'=>r = .returned (.bool (inB n m))/\Below w.heap.size w w':=by
 by_cases h0:0<=n
 ·by_cases h1:n<=m
  ·have hv:inB n m=true:=by unfold inB;simp [h0,h1]
   exact Ucj
  ·have hv:inB n m=false:=by unfold inB;simp [h1]
   exact Ucj
 ·have hv:inB n m=false:=by unfold inB;simp [h0]
  exact Ucj
theorem Jt4 (f:Fr) (w:World):Calls Tryz.prog 59 #[frV f] w fun r w'=>r = .returned (.int .i64 (if f.good=true then 0 else 1))/\Below w.heap.size w w':=by
 have dV:=fun n m W=>Jyr n m W;obtain⟨s,o,n,i,u⟩:=f;obtain⟨R,hR⟩:∃R:Int,R=if (Fr.mk s o n i u).good=true then 0 else 1:=⟨_,rfl⟩;rw [<-hR];unfold Fr.good at hR;unfold frV;dsimp only at *
 cases h1:inB s 24
 ·rw [h1] at hR;simp only [Bool.false_and,Bool.false_eq_true,if_false] at hR;have HV:=Nf hR;clear hR
  go_enter Tryz.func59,Tryz.ntmps59
  go_wp2_with (first|(go_at_call 88;refine mo (dV _ _ _) fun w1 ac ak af bV=>?_;(try simp at af);(try have bV:=lt0 w w1);(try have gq:=ltA w 1 w1);(try have ow:=ltA w 2 w1);(try have ns:=lt0 wr w1);(try have nt:=ltA wr 1 w1)))
  exact Udf
 cases h2:inB o 16
 ·rw [h1,h2] at hR;simp only [Bool.false_and,Bool.and_false,Bool.false_eq_true,if_false] at hR;have HV:=Nf hR;clear hR
  go_enter Tryz.func59,Tryz.ntmps59
  go_wp2_with (first|(go_at_call 88;refine mo (dV _ _ _) fun w1 ac ak af bV=>?_;(try simp at af);(try have bV:=lt0 w w1);(try have gq:=ltA w 1 w1);(try have ow:=ltA w 2 w1);(try have ns:=lt0 wr w1);(try have nt:=ltA wr 1 w1)))
  exact Udf
 cases h3:inB n 16
 ·rw [h1,h2,h3] at hR;simp only [Bool.false_and,Bool.and_false,Bool.false_eq_true,if_false] at hR;have HV:=Nf hR;clear hR
  go_enter Tryz.func59,Tryz.ntmps59
  go_wp2_with (first|(go_at_call 88;refine mo (dV _ _ _) fun w1 ac ak af bV=>?_;(try simp at af);(try have bV:=lt0 w w1);(try have gq:=ltA w 1 w1);(try have ow:=ltA w 2 w1);(try have ns:=lt0 wr w1);(try have nt:=ltA wr 1 w1)))
  exact Udf
 cases h4:inB i 8
 ·rw [h1,h2,h3,h4] at hR;simp only [Bool.false_and,Bool.and_false,Bool.false_eq_true,if_false] at hR;have HV:=Nf hR;clear hR
  go_enter Tryz.func59,Tryz.ntmps59
  go_wp2_with (first|(go_at_call 88;refine mo (dV _ _ _) fun w1 ac ak af bV=>?_;(try simp at af);(try have bV:=lt0 w w1);(try have gq:=ltA w 1 w1);(try have ow:=ltA w 2 w1);(try have ns:=lt0 wr w1);(try have nt:=ltA wr 1 w1)))
  exact Udf
 cases h5:inB u 8
 all_goals
  rw [h1,h2,h3,h4,h5] at hR;simp only [Bool.true_and,Bool.and_false,Bool.and_true,Bool.false_eq_true,if_false,if_true] at hR;have HV:=Nf hR;clear hR
  go_enter Tryz.func59,Tryz.ntmps59
  go_wp2_with (first|(go_at_call 88;refine mo (dV _ _ _) fun w1 ac ak af bV=>?_;(try simp at af);(try have bV:=lt0 w w1);(try have gq:=ltA w 1 w1);(try have ow:=ltA w 2 w1);(try have ns:=lt0 wr w1);(try have nt:=ltA wr 1 w1)))
  go_ret;exact⟨Jm HV.out.symm,Jb⟩
theorem Jsq (op:Int) (f:Fr) (w:World):Calls Tryz.prog 90 #[.int .i64 op,frV f] w fun r w'=>r = .returned (.agg #[.int .i64 (Ky op),.int .i64 (Kan op),.int .i64 (Xn op f)])/\Below w.heap.size w w':=by
 obtain⟨s,o,n,i,u⟩:=f;unfold frV;dsimp only
 rcases Jul op with h|rfl|rfl|rfl|rfl|rfl|rfl|rfl|rfl|rfl|rfl|rfl
 ·obtain⟨t1,t2,t3,t4,t5,t6,t7,t8,t9,t10,t11⟩:=h
  have hv:Ky op=0/\Kan op=0/\Xn op ⟨s,o,n,i,u⟩ = -1:=by
   simp only [beq_eq_false_iff_ne,ne_eq] at *;unfold Ky Kan Xn;refine⟨by rw [if_neg Ua,if_neg Ua],by rw [if_neg Ua],by rw [if_neg Ua,if_neg Ua,if_neg Ua,if_neg Ua,if_neg Ua]⟩
  obtain⟨v1,v2,v3⟩:=hv;rw [v1,v2,v3];clear v1 v2 v3
  go_enter Tryz.func90,Tryz.ntmps90
  go_wp2_with fail
  refine Nv (v:= .agg #[.int .i64 0,.int .i64 0,.int .i64 (-1)]) Vb rfl ⟨rfl,Mq⟩
 all_goals
  go_enter Tryz.func90,Tryz.ntmps90
  go_wp2_with fail
 ·refine Nv (v:= .agg #[.int .i64 0,.int .i64 1,.int .i64 (-1)]) Vb rfl ⟨Fs,Mq⟩
 ·refine Nv (v:= .agg #[.int .i64 0,.int .i64 1,.int .i64 s]) Vb rfl ⟨Fs,Mq⟩
 ·refine Nv (v:= .agg #[.int .i64 1,.int .i64 0,.int .i64 s]) Vb rfl ⟨Fs,Mq⟩
 ·refine Nv (v:= .agg #[.int .i64 0,.int .i64 1,.int .i64 o]) Vb rfl ⟨Fs,Mq⟩
 ·refine Nv (v:= .agg #[.int .i64 1,.int .i64 0,.int .i64 n]) Vb rfl ⟨Fs,Mq⟩
 ·refine Nv (v:= .agg #[.int .i64 0,.int .i64 1,.int .i64 i]) Vb rfl ⟨Fs,Mq⟩
 ·refine Nv (v:= .agg #[.int .i64 1,.int .i64 0,.int .i64 u]) Vb rfl ⟨Fs,Mq⟩
 ·refine Nv (v:= .agg #[.int .i64 1,.int .i64 1,.int .i64 (-1)]) Vb rfl ⟨Fs,Mq⟩
 ·refine Nv (v:= .agg #[.int .i64 2,.int .i64 1,.int .i64 (-1)]) Vb rfl ⟨Fs,Mq⟩
 ·refine Nv (v:= .agg #[.int .i64 0,.int .i64 0,.int .i64 (-1)]) Vb rfl ⟨Fs,Mq⟩
 ·refine Nv (v:= .agg #[.int .i64 1,.int .i64 0,.int .i64 (-1)]) Vb rfl ⟨Fs,Mq⟩
structure Zv (W:World) (B:Nat) (ps:List Pl):Prop where
 cell:∀(k:Nat) (p:Pl),ps[k]?=some p->W.cell? ⟨B,k * 3,none⟩=some (.bool p.met)/\W.cell? ⟨B,k * 3+1,none⟩=some (.int .i64 p.d)/\W.cell? ⟨B,k * 3+2,none⟩=some (.int .i64 p.f)
 fz:∀o,W.frozen? ⟨B,o,none⟩=false
theorem Zv.set {W W2:World} {B tg:Nat} {ps:List Pl} {p:Pl} (h:Zv W B ps) (ho:∀o,(o<tg * 3\/tg * 3+3<=o)->W2.cell? ⟨B,o,none⟩=W.cell? ⟨B,o,none⟩)
  (h0:W2.cell? ⟨B,tg * 3,none⟩=some (.bool p.met)) (h1:W2.cell? ⟨B,tg * 3+1,none⟩=some (.int .i64 p.d)) (h2:W2.cell? ⟨B,tg * 3+2,none⟩=some (.int .i64 p.f)) (hf:∀o,W2.frozen? ⟨B,o,none⟩=W.frozen? ⟨B,o,none⟩):Zv W2 B (ps.set tg p):=by
 refine⟨fun k q hk=>?_,fun o=>(hf o).trans (h.fz o)⟩;rw [List.getElem?_set] at hk
 by_cases hj:tg=k
 ·subst hj;rw [if_pos rfl] at hk
  split at hk
  ·injection hk with hk;subst hk;exact⟨h0,h1,h2⟩
  ·cases hk
 ·rw [if_neg hj] at hk;obtain⟨a1,a2,a3⟩:=h.cell k q hk;exact⟨(ho _ Ua).trans a1,(ho _ Ua).trans a2,(ho _ Ua).trans a3⟩
theorem Zv.later {W W2:World} {B:Nat} {ps:List Pl} (h:Zv W B ps) (hB:B<W.heap.size) (hb:Below W.heap.size W W2):Zv W2 B ps:=
 ⟨fun k p hk=>by obtain⟨a1,a2,a3⟩:=h.cell k p hk;exact⟨Ja hb a1,Ja hb a2,Ja hb a3⟩,fun o=>(Jf hb B o hB).trans (h.fz o)⟩
theorem Zv.store1 {W:World} {B tg:Nat} {ps:List Pl} {q:Pl} (h:Zv W B ps) (hx:ps[tg]?=some q) (f:Int):Zv (W.setCell ⟨B,tg * 3+2,none⟩ (.int .i64 f)) B (ps.set tg ⟨q.met,q.d,f⟩):=by
 obtain⟨c0,c1,c2⟩:=h.cell tg q hx;have ne:∀o,o≠tg * 3+2->(W.setCell ⟨B,tg * 3+2,none⟩ (.int .i64 f)).cell? ⟨B,o,none⟩=W.cell? ⟨B,o,none⟩:=fun o ho=>World.cell?_setCell_other _ _ _ _ Le;exact h.set (fun o ho=>ne o Ua) ((ne _ Ua).trans c0) ((ne _ Ua).trans c1) (Nx _ _ _ c2) (fun o=>World.frozen?_setCell ..)
theorem Zv.store3 {W:World} {B tg:Nat} {ps:List Pl} {q:Pl} (h:Zv W B ps) (hx:ps[tg]?=some q) (m:Bool) (d f:Int):Zv (((W.setCell ⟨B,tg * 3,none⟩ (.bool m)).setCell ⟨B,tg * 3+1,none⟩ (.int .i64 d)).setCell ⟨B,tg * 3+2,none⟩ (.int .i64 f)) B (ps.set tg ⟨m,d,f⟩):=by
 obtain⟨c0,c1,c2⟩:=h.cell tg q hx;have ne:∀(W:World) (j:Nat) (u:Value) (o:Nat),o≠j->(W.setCell ⟨B,j,none⟩ u).cell? ⟨B,o,none⟩=W.cell? ⟨B,o,none⟩:=fun W j u o ho=>World.cell?_setCell_other _ _ _ _ Le;refine h.set (fun o ho=>?_) ?_ ?_ ?_ (fun o=>?_)
 ·rw [ne _ _ _ _ Ua,ne _ _ _ _ Ua,ne _ _ _ _ Ua]
 ·rw [ne _ _ _ _ Ua,ne _ _ _ _ Ua];exact Nx _ _ _ c0
 ·rw [ne _ _ _ _ Ua];exact Nx _ _ _ ((ne _ _ _ _ Ua).trans c1)
 ·exact Nx _ _ _ (((ne _ _ _ _ Ua).trans (ne _ _ _ _ Ua)).trans c2)
 ·rw [World.frozen?_setCell,World.frozen?_setCell,World.frozen?_setCell]
theorem Jrl (a:Bool) (b c:Int) (w:World):(Op.equalIn 10000 137 (.agg #[.bool a,.int .i64 b,.int .i64 c]) (.agg #[.bool false,.int .i64 0,.int .i64 0])).run Tryz.prog w = .ok (!a && b == 0 && c == 0) w:=by
 have hS:Tryz.prog.underlying 137=some (.struct (Tryz.prog.fieldsOf 137)):=Ug;have hp:Tryz.prog.stoodInHeld 137=false:=Ug;rw [show(10000:Nat)=9999+1 from rfl,run_equalIn_agg w 9999 137 _ _ hS hp];simp only [Program.fieldsOf,Tryz.underlying137];go_simp
 cases a <;> by_cases h2:b=0 <;> by_cases h3:c=0 <;> simp [h2,h3]
theorem Jws (X B:Nat) (ps:List Pl) (tg:Nat) (d f:Int) (W:World) (jt:X≠B) (hc:W.cell? ⟨X,0,none⟩=some (.slice (some ⟨B,0,none⟩) ps.length ps.length)) (hp:Zv W B ps) (hB:B<W.heap.size) (wR:tg<ps.length) (ai:ps.length<=601)
  (gG:∀p,ps[tg]?=some p->p.met=false->p.d=0/\p.f=0) :
  Calls Tryz.prog 91 #[.pointer (some ⟨X,0,none⟩),.int .i64 tg,.int .i64 d,.int .i64 f] W fun r w'=>r = .returned (.bool (Ja5 ps tg d f).isSome)/\Zv w' B ((Ja5 ps tg d f).getD ps)/\J6 (fun k=>k=B) W w':=by
 have hx:ps[tg]?=some ps[tg]:=Ng wR;generalize ps[tg]=p at hx;have hu:=gG p hx;obtain⟨c0,c1,c2⟩:=hp.cell tg p hx;have hfz0:=hp.fz (tg * 3);have tH:=hp.fz (tg * 3+1);have hfz2:=hp.fz (tg * 3+2);have pO:=Nu hc;have fM:Tryz.prog.eqGuardType Tryz.prog.depth 137=false:=Ug;have hti:(tg:Int)<(ps.length:Int):=Ua;obtain⟨R,hR⟩:∃R,R=Ja5 ps tg d f:=⟨_,rfl⟩;rw [<-hR];unfold Ja5 at hR;rw [hx] at hR;dsimp only at hR;have HP:=Nf hp;have HX:=Nf hx;clear hp gG hx;obtain⟨pm,pd,pf⟩:=p;dsimp only at *
 cases pm
 ·obtain⟨rfl,rfl⟩:=hu rfl;rw [if_neg Ux] at hR;have HR:=Nf hR;have dp:=fun w=>Jrl false 0 0 w;clear hR hu
  go_enter Tryz.func91,Tryz.ntmps91
  go_wp2_with fail
  go_ret;rw [HR.out];exact⟨rfl,(HP.out.store3 HX.out true d f).later (by simp;exact hB) (Jc (Nt) _),((((J6.refl (S:=fun k=>k=B) W).setCell rfl _ _).setCell rfl _ _).setCell rfl _ _).trans' (J6.bel (Jc (Nt) _))⟩
 ·rw [if_pos rfl] at hR;have dp:=fun w=>Jrl true pd pf w;simp only [Bool.not_true,Bool.false_and] at dp;clear hu
  by_cases hd:pd=d
  ·rw [if_pos hd] at hR;obtain rfl:=hd;have tq:(pd != pd)=false:=Ul
   by_cases hpf:pf<f
   ·have hm:max pf f=f:=Ua;rw [hm] at hR;have HR:=Nf hR;clear hR hm
    go_enter Tryz.func91,Tryz.ntmps91
    go_wp2_with fail
    go_region_law (fail)
    all_goals
     go_wp2_with fail
     go_ret;rw [HR.out];exact⟨rfl,(HP.out.store1 HX.out f).later (by simp;exact hB) (Jh (Jc (Nt) _)),((J6.refl (S:=fun k=>k=B) W).setCell rfl _ _).trans' (J6.bel (Jh (Jc (Nt) _)))⟩
   ·have hm:max pf f=pf:=Ua;rw [hm] at hR;have HR:=Nf hR;clear hR hm
    go_enter Tryz.func91,Tryz.ntmps91
    go_wp2_with fail
    go_region_law (fail)
    all_goals
     go_wp2_with fail
     go_ret;rw [HR.out];exact⟨rfl,(HP.out.store1 HX.out pf).later (by simp;exact hB) (Jh (Jc (Nt) _)),((J6.refl (S:=fun k=>k=B) W).setCell rfl _ _).trans' (J6.bel (Jh (Jc (Nt) _)))⟩
  ·rw [if_neg hd] at hR;have tq:(pd != d)=true:=G9;have HR:=Nf hR;clear hR
   go_enter Tryz.func91,Tryz.ntmps91
   go_wp2_with fail
   go_ret;rw [HR.out];exact⟨rfl,HP.out.later hB Jb,J6.bel Jb⟩
def Jhi (X B:Nat) (res:Int×List Pl×Int) (W:World) (r:Ending) (w':World):Prop:=
 r = .returned (.int .i64 res.1)/\(res.1=0->Zv w' B res.2.1/\w'.cell? ⟨X,1,none⟩=some (.int .i64 res.2.2))/\J6 (fun b=>b=B\/b=X) W w'/\
 w'.cell? ⟨X,0,none⟩=W.cell? ⟨X,0,none⟩/\w'.cell? ⟨X,2,none⟩=W.cell? ⟨X,2,none⟩/\∀o,w'.frozen? ⟨X,o,none⟩=W.frozen? ⟨X,o,none⟩
theorem Jrn {ps:List Pl} {k:Nat} {p:Pl} (h:ps[k]?=some p):ps.getD k Pl.no=p:=by
 rw [List.getD_eq_getElem?_getD,h];rfl
structure Jl4 (X B:Nat) (W V:World) (m:Int):Prop where
 k:J6 (fun b=>b=B\/b=X) W V
 x0:V.cell? ⟨X,0,none⟩=W.cell? ⟨X,0,none⟩
 x1:V.cell? ⟨X,1,none⟩=some (.int .i64 m)
 x2:V.cell? ⟨X,2,none⟩=W.cell? ⟨X,2,none⟩
 fz:∀o,V.frozen? ⟨X,o,none⟩=W.frozen? ⟨X,o,none⟩
theorem Jea {W V:World} {b:Nat} (h:V.heap[b]?=W.heap[b]?) (o:Nat):V.cell? ⟨b,o,none⟩=W.cell? ⟨b,o,none⟩:=World.cell?_of_block (a:=⟨b,o,none⟩) h
theorem Jl4.step {X B:Nat} {W V V':World} {m:Int} (h:Jl4 X B W V m) (hX:X<V.heap.size) (jt:X≠B) (hk:J6 (fun b=>b=B) V V'):Jl4 X B W V' m:=by
 have hb:=hk.block X hX jt;exact⟨h.k.trans hk fun b _ hb=> .inl hb,(Jea hb 0).trans h.x0,(Jea hb 1).trans h.x1,(Jea hb 2).trans h.x2,fun o=>(World.frozen?_of_block (a:=⟨X,o,none⟩) hb).trans (h.fz o)⟩
theorem Jl4.done {X B:Nat} {res:Int×List Pl×Int} {W w':World} {m:Int} {r:Ending} (h:Jl4 X B W w' m) (hr:r = .returned (.int .i64 res.1)) (hp:res.1=0->Zv w' B res.2.1/\res.2.2=m):Jhi X B res W r w':=
 ⟨hr,fun h0=>⟨(hp h0).1,by rw [(hp h0).2];exact h.x1⟩,h.k,h.x0,h.x2,h.fz⟩
theorem Zv.blk {W:World} {X B o:Nat} {ps:List Pl} (h:Zv W B ps) (hX:X≠B) (u:Value):Zv (W.setCell ⟨X,o,none⟩ u) B ps:=
 ⟨fun k p hk=>by obtain⟨a,b,c⟩:=h.cell k p hk;exact⟨(Qm _ _ _ _ _ _ (Ne.symm hX)).trans a,(Qm _ _ _ _ _ _ (Ne.symm hX)).trans b,(Qm _ _ _ _ _ _ (Ne.symm hX)).trans c⟩,fun o=>(World.frozen?_setCell ..).trans (h.fz o)⟩
theorem Jv1 {ps ps':List Pl} {j:Nat} {d f:Int} (h:Ja5 ps j d f=some ps'):ps'.length=ps.length:=by
 unfold Ja5 at h
 cases hx:ps[j]? with
 | none=>rw [hx] at h;cases h
 | some p=>
  rw [hx] at h;dsimp only at h
  split at h
  ·split at h
   ·injection h with h;rw [<-h,List.length_set]
   ·cases h
  ·injection h with h;rw [<-h,List.length_set]
theorem Jpw {op N:Int} (h:Qj (op,N)=0) (ho:op=10\/op=11):0<=N/\N<=65535:=by
 exact Ufy
theorem Jhi.bel {X B:Nat} {res:Int×List Pl×Int} {W:World} {r:Ending} {w':World} (hr:r = .returned (.int .i64 res.1)) (h0:res.1≠0) (hX:X<W.heap.size) (hb:Below W.heap.size W w'):Jhi X B res W r w':=
 ⟨hr,fun h=>absurd h h0,J6.bel hb,Jg hb _ _ hX,Jg hb _ _ hX,fun o=>Jf hb X o hX⟩
structure AtZ (V:World) (g:Nat) (u0 u1 u2:Value):Prop where
 c0:V.cell? ⟨g,0,none⟩=some u0
 c1:V.cell? ⟨g,1,none⟩=some u1
 c2:V.cell? ⟨g,2,none⟩=some u2
 f0:V.frozen? ⟨g,0,none⟩=false
 f1:V.frozen? ⟨g,1,none⟩=false
 f2:V.frozen? ⟨g,2,none⟩=false
theorem AtZ.lt {V:World} {g:Nat} {u0 u1 u2:Value} (h:AtZ V g u0 u1 u2):g<V.heap.size:=Nu h.c0
theorem AtZ.later {V V':World} {g:Nat} {u0 u1 u2:Value} (h:AtZ V g u0 u1 u2) (hb:Below V.heap.size V V'):AtZ V' g u0 u1 u2:=
 ⟨Ja hb h.c0,Ja hb h.c1,Ja hb h.c2,(Jf hb _ _ h.lt).trans h.f0,(Jf hb _ _ h.lt).trans h.f1,(Jf hb _ _ h.lt).trans h.f2⟩
theorem AtZ.new (V:World) (u0 u1 u2:Value) (t:TypeId):AtZ (V.alloc (.cells #[u0,u1,u2] t)) V.heap.size u0 u1 u2:=⟨Uq,Uq,Uq,Uq,Uq,Uq⟩
theorem AtZ.set {V:World} {g:Nat} {u0 u1 u2:Value} (h:AtZ V g u0 u1 u2) (v0 v1 v2:Value):AtZ (((V.setCell ⟨g,0,none⟩ v0).setCell ⟨g,1,none⟩ v1).setCell ⟨g,2,none⟩ v2) g v0 v1 v2:=by
 obtain⟨a,b,c⟩:=Jp5 v0 v1 v2 h.c0 h.c1 h.c2;exact⟨a,b,c,(Jev _ _ _ _).trans h.f0,(Jev _ _ _ _).trans h.f1,(Jev _ _ _ _).trans h.f2⟩
theorem AtZ.other {V:World} {g k:Nat} {u0 u1 u2:Value} (h:AtZ V g u0 u1 u2) (v0 v1 v2:Value) (hk:g≠k):AtZ (((V.setCell ⟨k,0,none⟩ v0).setCell ⟨k,1,none⟩ v1).setCell ⟨k,2,none⟩ v2) g u0 u1 u2:=
 ⟨(Qy _ _ _ hk).trans h.c0,(Qy _ _ _ hk).trans h.c1,(Qy _ _ _ hk).trans h.c2,(Jev _ _ _ _).trans h.f0,(Jev _ _ _ _).trans h.f1,(Jev _ _ _ _).trans h.f2⟩
theorem AtZ.othr {V:World} {g k:Nat} {u0 u1 u2 x0 x1 x2:Value} (h:AtZ V g u0 u1 u2) (_:AtZ V k x0 x1 x2) (v0 v1 v2:Value) (hk:g≠k):AtZ (((V.setCell ⟨k,0,none⟩ v0).setCell ⟨k,1,none⟩ v1).setCell ⟨k,2,none⟩ v2) g u0 u1 u2:=h.other v0 v1 v2 hk
def Kai (W:World) (op N:Int) (f:Fr) (p:Pl) (x q:Value) (wx:World):Prop:=
 ∃gx gp,x = .pointer (some ⟨gx,0,none⟩)/\q = .pointer (some ⟨gp,0,none⟩)/\W.heap.size+2<=gx/\W.heap.size+2<=gp/\gx<wx.heap.size/\gp<wx.heap.size/\
  wx.cell? ⟨gx,0,none⟩=some (.int .i64 (Ky op))/\wx.cell? ⟨gx,1,none⟩=some (.int .i64 (Kan op))/\wx.cell? ⟨gx,2,none⟩=some (.int .i64 (Xn op f))/\
  wx.cell? ⟨gp,0,none⟩=some (.bool p.met)/\wx.cell? ⟨gp,1,none⟩=some (.int .i64 p.d)/\wx.cell? ⟨gp,2,none⟩=some (.int .i64 p.f)/\
  wx.cell? ⟨W.heap.size,0,none⟩=some (.int .i64 op)/\wx.cell? ⟨W.heap.size,1,none⟩=some (.int .i32 N)/\Below W.heap.size W wx
theorem Jp0 (X B:Nat) (ps:List Pl) (dep:Int) (at_ n:Nat) (op N:Int) (f:Fr) (W:World) (jt:X≠B) (c0:W.cell? ⟨X,0,none⟩=some (.slice (some ⟨B,0,none⟩) ps.length ps.length)) (c1:W.cell? ⟨X,1,none⟩=some (.int .i64 dep)) (fX:W.frozen? ⟨X,1,none⟩=false)
  (hp:Zv W B ps) (hB:B<W.heap.size) (aw:Jaa at_ n dep ps) (aY:at_<n) (hn:n<=600) (hN:I32 N) :
  Calls Tryz.prog 60 #[.pointer (some ⟨X,0,none⟩),.agg #[.int .i64 op,.int .i32 N],.int .i64 at_,frV f] W (Jhi X B (Jct f at_ (op,N) ps dep) W):=by
 have pO:=Nu c0;obtain⟨R,hR⟩:∃R,R=Jct f at_ (op,N) ps dep:=⟨_,rfl⟩;rw [<-hR];unfold Jct at hR;have aB:=fun w=>Jlr op N w;unfold Jby at aB
 by_cases hr:Qj (op,N)≠0
 ·rw [if_pos hr] at hR;have tq:(Qj (op,N) != 0)=true:=Dq;have hR1:R.1=Qj (op,N):=by rw [hR]
  have HR:=Nf hR1;have HRR:=Nf hr;clear hR hr hR1 aw hp;generalize Qj (op,N)=e at *;unfold frV
  go_enter Tryz.func60,Tryz.ntmps60
  go_wp2_with (first|(go_at_call 89;refine mo (aB _) fun w1 ac ak af bV=>?_;(try simp at af)))
  go_ret;exact Jhi.bel (Jm HR.out.symm) (by rw [HR.out];exact HRR.out) pO Jb
 rw [if_neg hr] at hR;have eV:Qj (op,N)=0:=Dq;rw [eV] at aB;have HRT:=Nf eV;clear hr eV;have ai:=aw.len;have am:at_<ps.length:=Ua;have hx:ps[at_]?=some ps[at_]:=Ng am;generalize ps[at_]=p at hx;obtain⟨b0,b1,b2⟩:=hp.cell at_ p hx;have hpd:=aw.all at_ p hx;rw [Jrn hx] at hR;have nN:=fun w=>Jsq op f w;have hti:(at_:Int)<(ps.length:Int):=Ua;have pP:ps.length<=601:=Ua;have eO:=Nf ai;have HP:=Nf hp;have kc:=Nf aw;have HR:=Nf hR;clear hp aw hR hx ai;unfold frV at *
 go_enter Tryz.func60,Tryz.ntmps60
 go_upto_region 4 with (first|(go_at_call 89;refine mo (aB _) fun w1 ac ak af bV=>?_;(try simp at af)))
 refine Jo fun W1 bt=>?_;have eM:=Nd W W1 G4;have q0:=Na W1 W.heap.size 0 op Uds;have q1:=Nb W1 W.heap.size 1 (.int .i32 N) Uds;have k0:=Na W1 (W.heap.size+1) 0 f.s Uds;have k1:=Na W1 (W.heap.size+1) 1 f.o Uds;have k2:=Na W1 (W.heap.size+1) 2 f.n Uds;have k3:=Na W1 (W.heap.size+1) 3 f.i Uds;have k4:=Na W1 (W.heap.size+1) 4 f.u Uds;have x0:=Ja eM c0;have y0:=Ja eM b0;have y1:=Ja eM b1;have y2:=Ja eM b2;have su:=Nu k0;have hyB:=Nu y0;have hyX:=Nu x0;have hyW:=Nu q0;clear bt aB
 go_cut [10,11] from 19 to 29 (fun x q wx=>Kai W op N f p x q wx)
 case first=>
  have hS:∀w',Below W1.heap.size W1 w'->w'.cell? ⟨X,0,none⟩=some (.slice (some ⟨B,0,none⟩) ps.length ps.length)/\w'.cell? ⟨B,at_ * 3,none⟩=some (.bool p.met)/\w'.cell? ⟨B,at_ * 3+1,none⟩=some (.int .i64 p.d)/\w'.cell? ⟨B,at_ * 3+2,none⟩=some (.int .i64 p.f)/\w'.cell? ⟨W.heap.size,0,none⟩=some (.int .i64 op)/\w'.cell? ⟨W.heap.size+1,0,none⟩=some (.int .i64 f.s)/\w'.cell? ⟨W.heap.size+1,1,none⟩=some (.int .i64 f.o)/\w'.cell? ⟨W.heap.size+1,2,none⟩=some (.int .i64 f.n)/\w'.cell? ⟨W.heap.size+1,3,none⟩=some (.int .i64 f.i)/\w'.cell? ⟨W.heap.size+1,4,none⟩=some (.int .i64 f.u):=fun w' hb=>⟨Ja hb x0,Ja hb y0,Ja hb y1,Ja hb y2,Ja hb q0,Ja hb k0,Ja hb k1,Ja hb k2,Ja hb k3,Ja hb k4⟩;have HS:=Nf hS;have ar:=hS W1.drew (Jh (Nt));have Q0:=Nf q0;have Q1:=Nf q1;clear hS x0 y0 y1 y2 q0 q1 k0 k1 k2 k3 k4;refine Kd (fun w'=>w'.cell? ⟨X,0,none⟩=some (.slice (some ⟨B,0,none⟩) ps.length ps.length)/\w'.cell? ⟨B,at_ * 3,none⟩=some (.bool p.met)/\w'.cell? ⟨B,at_ * 3+1,none⟩=some (.int .i64 p.d)/\w'.cell? ⟨B,at_ * 3+2,none⟩=some (.int .i64 p.f)/\w'.cell? ⟨W.heap.size,0,none⟩=some (.int .i64 op)/\w'.cell? ⟨W.heap.size+1,0,none⟩=some (.int .i64 f.s)/\w'.cell? ⟨W.heap.size+1,1,none⟩=some (.int .i64 f.o)/\w'.cell? ⟨W.heap.size+1,2,none⟩=some (.int .i64 f.n)/\w'.cell? ⟨W.heap.size+1,3,none⟩=some (.int .i64 f.i)/\w'.cell? ⟨W.heap.size+1,4,none⟩=some (.int .i64 f.u)) 14 1 Ug Gd ?_;simp only [List.size_toArray,Nl,Nm,Nat.zero_add,Nat.reduceAdd];refine Ji 0 ar ?_;refine Ji 1 ar ?_;refine Ji 2 ar ?_;refine Ji 4 ar ?_;refine Ji 5 ar ?_;refine Ji 6 ar ?_;refine Ji 7 ar ?_;refine Ji 8 ar ?_;refine Ji 9 ar ?_;refine Ji 10 ar ?_;refine Ys fun V0 sM=>?_;have bV0:=Nd W1 V0 (by rw [sM];exact Jh (Nt))
  clear ar sM;refine Jrr (i:=3) (j:=11) (l:=12) Ug Um Um Um rfl rfl rfl ?_ ?_ ?_
  ·refine Jj fun K hK=>?_;go_simp;refine(nN _).mono ?_;rintro r V1 ⟨rfl,ef⟩;dsimp only;have bV1:=Nd W1 V1 (Jd bV0 ef);refine hK _ _ ⟨HS.out _ bV1,?_⟩;clear hK K
   try simp only [Act.put,sa1,sa2,sa3]
   (try replace bQ:=bQ.later ef)
   (try replace bR:=bR.later ef)
   refine Jfe (i:=11) (j:=12) Ug Um Um rfl rfl ?_ ?_
   ·refine Jj fun K hK=>?_;go_simp;refine hK _ _ ⟨HS.out _ (Jc bV1 _),?_⟩;clear hK K
    try simp only [Act.put,sa1,sa2,sa3]
    refine Ys fun V2 hV=>?_;have bV2:=Nd W1 V2 D5;have bQ:AtZ V2 V1.heap.size (.int .i64 0) (.int .i64 0) (.int .i64 0):=V8
    (try have aS:=bR.lt)
    (try replace bR:=bR.later (show Below _ _ V2 by rw [hV];exact Jc (Nt) _))
    have gK:W1.heap.size<=V1.heap.size:=bV1.size;clear hV;refine Kb 12 ?_;refine Jj fun K hK=>?_;go_simp;refine hK _ _ ⟨HS.out _ (Jc bV2 _),?_⟩;clear hK K
    try simp only [Act.put,sa1,sa2,sa3]
    refine Ys fun V3 hV=>?_;have bV3:=Nd W1 V3 D6;have bR:AtZ V3 V2.heap.size (.bool false) (.int .i64 0) (.int .i64 0):=V8
    (try have aS:=bQ.lt)
    (try replace bQ:=bQ.later (show Below _ _ V3 by rw [hV];exact Jc (Nt) _))
    have qV:W1.heap.size<=V2.heap.size:=bV2.size;clear hV;refine Kb 13 ?_;obtain⟨xc0,xc1,xc2,xf0,xf1,xf2⟩:=id bQ;refine Jj fun K hK=>?_;go_simp;refine hK _ _ ⟨HS.out _ (Qq _ _ _ bV3 gK),?_⟩;clear xc0 xc1 xc2 xf0 xf1 xf2;clear hK K
    try simp only [Act.put,sa1,sa2,sa3]
    refine Ys fun V4 hV=>?_;have bV4:=Nd W1 V4 Fi;have pQ:=bQ.lt
    (try have pR:=bR.lt)
    (try (have ec:=bR.othr bQ (.int .i64 (Ky op)) (.int .i64 (Kan op)) (.int .i64 (Xn op f)) Ua;rw [<-hV] at ec;clear bR;have bR:=ec;clear ec))
    have bW:=bQ.set (.int .i64 (Ky op)) (.int .i64 (Kan op)) (.int .i64 (Xn op f));rw [<-hV] at bW;clear bQ;have bQ:=bW;clear bW;clear hV;refine Kh Ug ?_;obtain⟨pc0,pc1,pc2,pf0,pf1,pf2⟩:=id bR;refine Qx 14 ?_;refine Jj fun K hK=>?_;go_simp;refine hK _ _ ?_;clear hK K
    try simp only [Act.put,sa1,sa2,sa3]
    refine Ki Ug ?_;refine Zc fun V5 gy=>?_;have bV5:=Nd W1 V5 Fh;have pQ:=bQ.lt;have pR:=bR.lt;have io:=bQ.othr bR (.bool p.met) (.int .i64 p.d) (.int .i64 p.f) Ua;have iO:=bR.set (.bool p.met) (.int .i64 p.d) (.int .i64 p.f);rw [<-gy] at io iO;have dd:=Nf io;have df:=Nf iO;clear gy bQ bR io iO pc0 pc1 pc2 pf0 pf1 pf2
    go_wp2_with fail
    go_meet
    case rel=>exact⟨_,_,rfl,rfl,Ua,Ua,dd.out.lt,df.out.lt,dd.out.c0,dd.out.c1,dd.out.c2,df.out.c0,df.out.c1,df.out.c2,Ja bV5 Q0.out,Ja bV5 Q1.out,Jd eM bV5⟩
   ·refine Jj fun K hK=>?_;go_simp;refine hK _ _ ⟨HS.out _ (Jc bV1 _),?_⟩;clear hK K
    try simp only [Act.put,sa1,sa2,sa3]
    refine Ys fun V2 hV=>?_;have bV2:=Nd W1 V2 D5;have bR:AtZ V2 V1.heap.size (.bool false) (.int .i64 0) (.int .i64 0):=V8
    (try have aS:=bQ.lt)
    (try replace bQ:=bQ.later (show Below _ _ V2 by rw [hV];exact Jc (Nt) _))
    have qV:W1.heap.size<=V1.heap.size:=bV1.size;clear hV;refine Kb 11 ?_;refine Jj fun K hK=>?_;go_simp;refine hK _ _ ⟨HS.out _ (Jc bV2 _),?_⟩;clear hK K
    try simp only [Act.put,sa1,sa2,sa3]
    refine Ys fun V3 hV=>?_;have bV3:=Nd W1 V3 D6;have bQ:AtZ V3 V2.heap.size (.int .i64 0) (.int .i64 0) (.int .i64 0):=V8
    (try have aS:=bR.lt)
    (try replace bR:=bR.later (show Below _ _ V3 by rw [hV];exact Jc (Nt) _))
    have gK:W1.heap.size<=V2.heap.size:=bV2.size;clear hV;refine Kb 13 ?_;obtain⟨xc0,xc1,xc2,xf0,xf1,xf2⟩:=id bQ;refine Jj fun K hK=>?_;go_simp;refine hK _ _ ⟨HS.out _ (Qq _ _ _ bV3 gK),?_⟩;clear xc0 xc1 xc2 xf0 xf1 xf2;clear hK K
    try simp only [Act.put,sa1,sa2,sa3]
    refine Ys fun V4 hV=>?_;have bV4:=Nd W1 V4 Fi;have pQ:=bQ.lt
    (try have pR:=bR.lt)
    (try (have ec:=bR.othr bQ (.int .i64 (Ky op)) (.int .i64 (Kan op)) (.int .i64 (Xn op f)) Ua;rw [<-hV] at ec;clear bR;have bR:=ec;clear ec))
    have bW:=bQ.set (.int .i64 (Ky op)) (.int .i64 (Kan op)) (.int .i64 (Xn op f));rw [<-hV] at bW;clear bQ;have bQ:=bW;clear bW;clear hV;refine Kh Ug ?_;obtain⟨pc0,pc1,pc2,pf0,pf1,pf2⟩:=id bR;refine Qx 14 ?_;refine Jj fun K hK=>?_;go_simp;refine hK _ _ ?_;clear hK K
    try simp only [Act.put,sa1,sa2,sa3]
    refine Ki Ug ?_;refine Zc fun V5 gy=>?_;have bV5:=Nd W1 V5 Fh;have pQ:=bQ.lt;have pR:=bR.lt;have io:=bQ.othr bR (.bool p.met) (.int .i64 p.d) (.int .i64 p.f) Ua;have iO:=bR.set (.bool p.met) (.int .i64 p.d) (.int .i64 p.f);rw [<-gy] at io iO;have dd:=Nf io;have df:=Nf iO;clear gy bQ bR io iO pc0 pc1 pc2 pf0 pf1 pf2
    go_wp2_with fail
    go_meet
    case rel=>exact⟨_,_,rfl,rfl,Ua,Ua,dd.out.lt,df.out.lt,dd.out.c0,dd.out.c1,dd.out.c2,df.out.c0,df.out.c1,df.out.c2,Ja bV5 Q0.out,Ja bV5 Q1.out,Jd eM bV5⟩
  ·refine Jj fun K hK=>?_;go_simp;refine hK _ _ ⟨HS.out _ (Jc bV0 _),?_⟩;clear hK K
   try simp only [Act.put,sa1,sa2,sa3]
   refine Ys fun V1 hV=>?_;have bV1:=Nd W1 V1 (by rw [hV];exact Jc bV0 _)
   have bQ:AtZ V1 V0.heap.size (.int .i64 0) (.int .i64 0) (.int .i64 0):=V8
   (try have aS:=bR.lt)
   (try replace bR:=bR.later (show Below _ _ V1 by rw [hV];exact Jc (Nt) _))
   have gK:W1.heap.size<=V0.heap.size:=bV0.size;clear hV;refine Jfe (i:=3) (j:=12) Ug Um Um rfl rfl ?_ ?_
   ·refine Jj fun K hK=>?_;go_simp;refine(nN _).mono ?_;rintro r V2 ⟨rfl,ef⟩;dsimp only;have bV2:=Nd W1 V2 (Jd bV1 ef);refine hK _ _ ⟨HS.out _ bV2,?_⟩;clear hK K
    try simp only [Act.put,sa1,sa2,sa3]
    (try replace bQ:=bQ.later ef)
    (try replace bR:=bR.later ef)
    refine Kb 12 ?_;refine Jj fun K hK=>?_;go_simp;refine hK _ _ ⟨HS.out _ (Jc bV2 _),?_⟩;clear hK K
    try simp only [Act.put,sa1,sa2,sa3]
    refine Ys fun V3 hV=>?_;have bV3:=Nd W1 V3 D6;have bR:AtZ V3 V2.heap.size (.bool false) (.int .i64 0) (.int .i64 0):=V8
    (try have aS:=bQ.lt)
    (try replace bQ:=bQ.later (show Below _ _ V3 by rw [hV];exact Jc (Nt) _))
    have qV:W1.heap.size<=V2.heap.size:=bV2.size;clear hV;refine Kb 13 ?_;obtain⟨xc0,xc1,xc2,xf0,xf1,xf2⟩:=id bQ;refine Jj fun K hK=>?_;go_simp;refine hK _ _ ⟨HS.out _ (Qq _ _ _ bV3 gK),?_⟩;clear xc0 xc1 xc2 xf0 xf1 xf2;clear hK K
    try simp only [Act.put,sa1,sa2,sa3]
    refine Ys fun V4 hV=>?_;have bV4:=Nd W1 V4 Fi;have pQ:=bQ.lt
    (try have pR:=bR.lt)
    (try (have ec:=bR.othr bQ (.int .i64 (Ky op)) (.int .i64 (Kan op)) (.int .i64 (Xn op f)) Ua;rw [<-hV] at ec;clear bR;have bR:=ec;clear ec))
    have bW:=bQ.set (.int .i64 (Ky op)) (.int .i64 (Kan op)) (.int .i64 (Xn op f));rw [<-hV] at bW;clear bQ;have bQ:=bW;clear bW;clear hV;refine Kh Ug ?_;obtain⟨pc0,pc1,pc2,pf0,pf1,pf2⟩:=id bR;refine Qx 14 ?_;refine Jj fun K hK=>?_;go_simp;refine hK _ _ ?_;clear hK K
    try simp only [Act.put,sa1,sa2,sa3]
    refine Ki Ug ?_;refine Zc fun V5 gy=>?_;have bV5:=Nd W1 V5 Fh;have pQ:=bQ.lt;have pR:=bR.lt;have io:=bQ.othr bR (.bool p.met) (.int .i64 p.d) (.int .i64 p.f) Ua;have iO:=bR.set (.bool p.met) (.int .i64 p.d) (.int .i64 p.f);rw [<-gy] at io iO;have dd:=Nf io;have df:=Nf iO;clear gy bQ bR io iO pc0 pc1 pc2 pf0 pf1 pf2
    go_wp2_with fail
    go_meet
    case rel=>exact⟨_,_,rfl,rfl,Ua,Ua,dd.out.lt,df.out.lt,dd.out.c0,dd.out.c1,dd.out.c2,df.out.c0,df.out.c1,df.out.c2,Ja bV5 Q0.out,Ja bV5 Q1.out,Jd eM bV5⟩
   ·refine Jj fun K hK=>?_;go_simp;refine hK _ _ ⟨HS.out _ (Jc bV1 _),?_⟩;clear hK K
    try simp only [Act.put,sa1,sa2,sa3]
    refine Ys fun V2 hV=>?_;have bV2:=Nd W1 V2 D5;have bR:AtZ V2 V1.heap.size (.bool false) (.int .i64 0) (.int .i64 0):=V8
    (try have aS:=bQ.lt)
    (try replace bQ:=bQ.later (show Below _ _ V2 by rw [hV];exact Jc (Nt) _))
    have qV:W1.heap.size<=V1.heap.size:=bV1.size;clear hV;refine Kb 3 ?_;refine Jj fun K hK=>?_;go_simp;refine(nN _).mono ?_;rintro r V3 ⟨rfl,ef⟩;dsimp only;have bV3:=Nd W1 V3 (Jd bV2 ef);refine hK _ _ ⟨HS.out _ bV3,?_⟩;clear hK K
    try simp only [Act.put,sa1,sa2,sa3]
    (try replace bQ:=bQ.later ef)
    (try replace bR:=bR.later ef)
    refine Kb 13 ?_;obtain⟨xc0,xc1,xc2,xf0,xf1,xf2⟩:=id bQ;refine Jj fun K hK=>?_;go_simp;refine hK _ _ ⟨HS.out _ (Qq _ _ _ bV3 gK),?_⟩;clear xc0 xc1 xc2 xf0 xf1 xf2;clear hK K
    try simp only [Act.put,sa1,sa2,sa3]
    refine Ys fun V4 hV=>?_;have bV4:=Nd W1 V4 Fi;have pQ:=bQ.lt
    (try have pR:=bR.lt)
    (try (have ec:=bR.othr bQ (.int .i64 (Ky op)) (.int .i64 (Kan op)) (.int .i64 (Xn op f)) Ua;rw [<-hV] at ec;clear bR;have bR:=ec;clear ec))
    have bW:=bQ.set (.int .i64 (Ky op)) (.int .i64 (Kan op)) (.int .i64 (Xn op f));rw [<-hV] at bW;clear bQ;have bQ:=bW;clear bW;clear hV;refine Kh Ug ?_;obtain⟨pc0,pc1,pc2,pf0,pf1,pf2⟩:=id bR;refine Qx 14 ?_;refine Jj fun K hK=>?_;go_simp;refine hK _ _ ?_;clear hK K
    try simp only [Act.put,sa1,sa2,sa3]
    refine Ki Ug ?_;refine Zc fun V5 gy=>?_;have bV5:=Nd W1 V5 Fh;have pQ:=bQ.lt;have pR:=bR.lt;have io:=bQ.othr bR (.bool p.met) (.int .i64 p.d) (.int .i64 p.f) Ua;have iO:=bR.set (.bool p.met) (.int .i64 p.d) (.int .i64 p.f);rw [<-gy] at io iO;have dd:=Nf io;have df:=Nf iO;clear gy bQ bR io iO pc0 pc1 pc2 pf0 pf1 pf2
    go_wp2_with fail
    go_meet
    case rel=>exact⟨_,_,rfl,rfl,Ua,Ua,dd.out.lt,df.out.lt,dd.out.c0,dd.out.c1,dd.out.c2,df.out.c0,df.out.c1,df.out.c2,Ja bV5 Q0.out,Ja bV5 Q1.out,Jd eM bV5⟩
  ·refine Jj fun K hK=>?_;go_simp;refine hK _ _ ⟨HS.out _ (Jc bV0 _),?_⟩;clear hK K
   try simp only [Act.put,sa1,sa2,sa3]
   refine Ys fun V1 hV=>?_;have bV1:=Nd W1 V1 (by rw [hV];exact Jc bV0 _)
   have bR:AtZ V1 V0.heap.size (.bool false) (.int .i64 0) (.int .i64 0):=V8
   (try have aS:=bQ.lt)
   (try replace bQ:=bQ.later (show Below _ _ V1 by rw [hV];exact Jc (Nt) _))
   have qV:W1.heap.size<=V0.heap.size:=bV0.size;clear hV;refine Jfe (i:=3) (j:=11) Ug Um Um rfl rfl ?_ ?_
   ·refine Jj fun K hK=>?_;go_simp;refine(nN _).mono ?_;rintro r V2 ⟨rfl,ef⟩;dsimp only;have bV2:=Nd W1 V2 (Jd bV1 ef);refine hK _ _ ⟨HS.out _ bV2,?_⟩;clear hK K
    try simp only [Act.put,sa1,sa2,sa3]
    (try replace bQ:=bQ.later ef)
    (try replace bR:=bR.later ef)
    refine Kb 11 ?_;refine Jj fun K hK=>?_;go_simp;refine hK _ _ ⟨HS.out _ (Jc bV2 _),?_⟩;clear hK K
    try simp only [Act.put,sa1,sa2,sa3]
    refine Ys fun V3 hV=>?_;have bV3:=Nd W1 V3 D6;have bQ:AtZ V3 V2.heap.size (.int .i64 0) (.int .i64 0) (.int .i64 0):=V8
    (try have aS:=bR.lt)
    (try replace bR:=bR.later (show Below _ _ V3 by rw [hV];exact Jc (Nt) _))
    have gK:W1.heap.size<=V2.heap.size:=bV2.size;clear hV;refine Kb 13 ?_;obtain⟨xc0,xc1,xc2,xf0,xf1,xf2⟩:=id bQ;refine Jj fun K hK=>?_;go_simp;refine hK _ _ ⟨HS.out _ (Qq _ _ _ bV3 gK),?_⟩;clear xc0 xc1 xc2 xf0 xf1 xf2;clear hK K
    try simp only [Act.put,sa1,sa2,sa3]
    refine Ys fun V4 hV=>?_;have bV4:=Nd W1 V4 Fi;have pQ:=bQ.lt
    (try have pR:=bR.lt)
    (try (have ec:=bR.othr bQ (.int .i64 (Ky op)) (.int .i64 (Kan op)) (.int .i64 (Xn op f)) Ua;rw [<-hV] at ec;clear bR;have bR:=ec;clear ec))
    have bW:=bQ.set (.int .i64 (Ky op)) (.int .i64 (Kan op)) (.int .i64 (Xn op f));rw [<-hV] at bW;clear bQ;have bQ:=bW;clear bW;clear hV;refine Kh Ug ?_;obtain⟨pc0,pc1,pc2,pf0,pf1,pf2⟩:=id bR;refine Qx 14 ?_;refine Jj fun K hK=>?_;go_simp;refine hK _ _ ?_;clear hK K
    try simp only [Act.put,sa1,sa2,sa3]
    refine Ki Ug ?_;refine Zc fun V5 gy=>?_;have bV5:=Nd W1 V5 Fh;have pQ:=bQ.lt;have pR:=bR.lt;have io:=bQ.othr bR (.bool p.met) (.int .i64 p.d) (.int .i64 p.f) Ua;have iO:=bR.set (.bool p.met) (.int .i64 p.d) (.int .i64 p.f);rw [<-gy] at io iO;have dd:=Nf io;have df:=Nf iO;clear gy bQ bR io iO pc0 pc1 pc2 pf0 pf1 pf2
    go_wp2_with fail
    go_meet
    case rel=>exact⟨_,_,rfl,rfl,Ua,Ua,dd.out.lt,df.out.lt,dd.out.c0,dd.out.c1,dd.out.c2,df.out.c0,df.out.c1,df.out.c2,Ja bV5 Q0.out,Ja bV5 Q1.out,Jd eM bV5⟩
   ·refine Jj fun K hK=>?_;go_simp;refine hK _ _ ⟨HS.out _ (Jc bV1 _),?_⟩;clear hK K
    try simp only [Act.put,sa1,sa2,sa3]
    refine Ys fun V2 hV=>?_;have bV2:=Nd W1 V2 D5;have bQ:AtZ V2 V1.heap.size (.int .i64 0) (.int .i64 0) (.int .i64 0):=V8
    (try have aS:=bR.lt)
    (try replace bR:=bR.later (show Below _ _ V2 by rw [hV];exact Jc (Nt) _))
    have gK:W1.heap.size<=V1.heap.size:=bV1.size;clear hV;refine Kb 3 ?_;refine Jj fun K hK=>?_;go_simp;refine(nN _).mono ?_;rintro r V3 ⟨rfl,ef⟩;dsimp only;have bV3:=Nd W1 V3 (Jd bV2 ef);refine hK _ _ ⟨HS.out _ bV3,?_⟩;clear hK K
    try simp only [Act.put,sa1,sa2,sa3]
    (try replace bQ:=bQ.later ef)
    (try replace bR:=bR.later ef)
    refine Kb 13 ?_;obtain⟨xc0,xc1,xc2,xf0,xf1,xf2⟩:=id bQ;refine Jj fun K hK=>?_;go_simp;refine hK _ _ ⟨HS.out _ (Qq _ _ _ bV3 gK),?_⟩;clear xc0 xc1 xc2 xf0 xf1 xf2;clear hK K
    try simp only [Act.put,sa1,sa2,sa3]
    refine Ys fun V4 hV=>?_;have bV4:=Nd W1 V4 Fi;have pQ:=bQ.lt
    (try have pR:=bR.lt)
    (try (have ec:=bR.othr bQ (.int .i64 (Ky op)) (.int .i64 (Kan op)) (.int .i64 (Xn op f)) Ua;rw [<-hV] at ec;clear bR;have bR:=ec;clear ec))
    have bW:=bQ.set (.int .i64 (Ky op)) (.int .i64 (Kan op)) (.int .i64 (Xn op f));rw [<-hV] at bW;clear bQ;have bQ:=bW;clear bW;clear hV;refine Kh Ug ?_;obtain⟨pc0,pc1,pc2,pf0,pf1,pf2⟩:=id bR;refine Qx 14 ?_;refine Jj fun K hK=>?_;go_simp;refine hK _ _ ?_;clear hK K
    try simp only [Act.put,sa1,sa2,sa3]
    refine Ki Ug ?_;refine Zc fun V5 gy=>?_;have bV5:=Nd W1 V5 Fh;have pQ:=bQ.lt;have pR:=bR.lt;have io:=bQ.othr bR (.bool p.met) (.int .i64 p.d) (.int .i64 p.f) Ua;have iO:=bR.set (.bool p.met) (.int .i64 p.d) (.int .i64 p.f);rw [<-gy] at io iO;have dd:=Nf io;have df:=Nf iO;clear gy bQ bR io iO pc0 pc1 pc2 pf0 pf1 pf2
    go_wp2_with fail
    go_meet
    case rel=>exact⟨_,_,rfl,rfl,Ua,Ua,dd.out.lt,df.out.lt,dd.out.c0,dd.out.c1,dd.out.c2,df.out.c0,df.out.c1,df.out.c2,Ja bV5 Q0.out,Ja bV5 Q1.out,Jd eM bV5⟩
 case rest=>
  obtain⟨gx,gp,rfl,rfl,zx1,zp1,zx2,zp2,t0,t1,t2,m0,m1,m2,q0,q1,bU⟩:=hcut;have x0:=Ja bU c0;have x1:=Ja bU c1;have fx:=(Jf bU X 1 pO).trans fX;have HPC:=Nf (HP.out.later hB bU);have tkr:=Jjp op;have gvr:=Jj1 op;have hR:=HR.out;clear HR HP nN ac eM y0 y1 y2 k0 k1 k2 k3 k4 b0 b1 b2;generalize Ky op=tk at *;generalize Kan op=gv at *;generalize Xn op f=rm at *;obtain⟨pm,pd,pf⟩:=p;dsimp only at *;obtain⟨lA,js,zb,db,gG⟩:=hpd;have hwN:wrap64 N=N:=by unfold I32 at hN;unfold wrap64;omega
  clear gG
  by_cases hA:0<=rm/\rm<=N
  ·rw [if_pos hA] at hR;have pS:=Nf (show R.1=10 by rw [hR]);obtain⟨hA1,tM⟩:=hA;have dA1:decide (0<=rm)=true:=by simpa using hA1
   have dA2:decide (rm<=N)=true:=by simpa using tM
   clear hR
   go_wp2_with fail
   go_ret;exact Jhi.bel (Jm pS.out.symm) Sv pO bU
  ·have xJ:rm<0\/N<rm:=Ua;rw [if_neg hA] at hR;clear hA;have HRH:=Nf hR;clear hR
   go_upto_region 6 with fail
   go_cut [38] from 39 to 49 (fun s wx=>s = .bool false/\wx=wc)
   case first=>
    rcases xJ with xJ|xJ
    ·go_wp2_with fail
     go_meet
     case rel=>exact⟨rfl,rfl⟩
    ·by_cases h0:0<=rm
     ·have dA2:¬rm<=N:=Ua
      go_wp2_with fail
      go_meet
      case rel=>exact⟨rfl,rfl⟩
     ·go_wp2_with fail
      go_meet
      case rel=>exact⟨rfl,rfl⟩
   case rest=>
    obtain⟨rfl,rfl⟩:=hcut;have hR:=HRH.out;clear xJ HRH t2
    cases pm
    ·rw [if_pos rfl] at hR;have pS:=Nf (show R.1=13 by rw [hR]);clear hR
     go_wp2_with fail
     go_ret;exact Jhi.bel (Jm pS.out.symm) Sv pO bU
    rw [if_neg Ux] at hR
    by_cases dr:pd<tk
    ·rw [if_pos (.inl dr)] at hR;exact Ucc
    by_cases dk:16<pd-tk+gv
    ·rw [if_pos (.inr dk)] at hR;exact Ucc
    rw [if_neg Ua] at hR;have hd:0<=pd-tk+gv/\pd-tk+gv<=16:=Ua;have sN:=Nf hR;clear hR;have hyX:=Nu x0
    go_upto_region 13 with fail
    refine Jo fun V hV=>?_;have mH:(if dep<pd-tk+gv then pd-tk+gv else dep)=max dep (pd-tk+gv):=Ua;rw [mH] at hV ⊢
    have jQ:Jl4 X B W V (max dep (pd-tk+gv)):=by
     rw [hV];exact⟨(J6.bel bU).setCell (.inr rfl) _ _,(J5 _ _ _ _ _ Ux).trans (Jg bU _ _ pO),Nx _ _ _ x1,(J5 _ _ _ _ _ Ux).trans (Jg bU _ _ pO),fun o=>(World.frozen?_setCell ..).trans (Jf bU _ _ pO)⟩
    have zc:Zv V B ps:=by rw [hV];exact HPC.out.blk jt _
    have v0:=Nb V X 0 (.slice (some ⟨B,0,none⟩) ps.length ps.length) (by rw [hV,J5 _ _ _ _ _ Ux];exact x0)
    have vm:=Na V gp 2 pf (by rw [hV,Qm _ _ _ _ _ _ Ua];exact m2)
    have vq0:=Na V W.heap.size 0 op (by rw [hV,Qm _ _ _ _ _ _ Ua];exact q0)
    have vq1:=Nb V W.heap.size 1 (.int .i32 N) (by rw [hV,Qm _ _ _ _ _ _ Ua];exact q1)
    have rB:B<V.heap.size:=by have:=jQ.k.size;omega
    have kM:=Nu v0;clear hV mH x0 x1 fx t0 t1 m0 m1 m2 q0 q1 HPC dr dk c0 c1 fX;have HV:=Nf jQ;have wS:=Nf zc;clear jQ zc;generalize pd-tk+gv=d at *;generalize gI:max dep d=mx at *;clear gI;have sO:=fun(W:World) (ps':List Pl) (j:Nat) hc hp hB wR ai gG=>Jws X B ps' j d (pf+1) W jt hc hp hB wR ai gG;have mY:=Nf sO;clear sO
    by_cases bM:op=10
    ·have t10:(op == 10)=true:=Fb;have t10n:(op != 10)=false:=Fb;have uy:=Jpw HRT.out (.inl bM);obtain⟨hN0,hN6⟩:=uy;have hR:=sN.out
     by_cases hJ:(ps.length:Int)<=(at_:Int)+1+N
     ·rw [if_pos ⟨.inl bM,hJ⟩] at hR;have hY:=Nf (show R.1=11 by rw [hR]);have dJ:decide ((ps.length:Int)<=(at_:Int)+1+N)=true:=by simpa using hJ
      clear hR bM sN hJ;exact Ubo
     rw [if_neg Ua,if_pos bM] at hR;dsimp only at hR;rw [if_pos (.inl bM)] at hR;have dJ:decide ((ps.length:Int)<=(at_:Int)+1+N)=false:=by simpa using hJ
     obtain⟨j,hj⟩:∃j:Nat,j=((at_:Int)+1+N).toNat:=⟨_,rfl⟩;rw [<-hj] at hR;have mX:j<ps.length:=Ua;have jO:(j:Int)=(at_:Int)+1+N:=Ua;clear bM sN hj
     go_upto_region 14 with fail
     go_quiet (fail)
     go_upto_region 16 with fail
     refine Jo fun V2 bz=>?_;have bK:=Nd V V2 Sk;have w0:=Ja bK v0;have wm:=Ja bK vm;have wq0:=Ja bK vq0;have wq1:=Ja bK vq1;have bL:=Nf (HV.out.step kM jt (J6.bel bK));have zd:=Nf (wS.out.later rB bK);have ke:=Nu w0;have mi:B<V2.heap.size:=Nr rB bK.size;clear bz bK v0 vm vq0 vq1 HV wS rB kM;have ak:=mY.out V2 ps j w0 zd.out mi mX pP (fun p hp=>(kc.out.all _ p hp).2.2.2.2);rw [jO] at ak;clear jO
     cases fG:Ja5 ps j d (pf+1) with
     | none=>
      rw [fG] at hR ak;have hY:=Nf (show R.1=12 by rw [hR]);clear hR fG
      go_wp2_with (go_at_call 91;refine ak.mono ?_;rintro r V3 ⟨rfl,ip,dU⟩)
      go_ret;exact(bL.out.step ke jt dU).done (Jm hY.out.symm) (fun h=>absurd (hY.out.symm.trans h) Ux)
     | some ps1=>
      rw [fG] at hR ak;dsimp only at hR;have hY:=Nf hR;clear hR fG
      go_wp2_with (go_at_call 91;refine ak.mono ?_;rintro r V3 ⟨rfl,ip,dU⟩)
      go_ret;exact(bL.out.step ke jt dU).done (Jm (by rw [hY.out])) (fun _=>by rw [hY.out];exact⟨ip,rfl⟩)
    by_cases gh:op=11
    ·have t10:(op == 10)=false:=Fb;have t10n:(op != 10)=true:=Fb;have t11:(op == 11)=true:=Sy;have uy:=Jpw HRT.out (.inr gh);obtain⟨hN0,hN6⟩:=uy;have hR:=sN.out
     by_cases hJ:(ps.length:Int)<=(at_:Int)+1+N
     ·rw [if_pos ⟨.inr gh,hJ⟩] at hR;have hY:=Nf (show R.1=11 by rw [hR]);have dJ:decide ((ps.length:Int)<=(at_:Int)+1+N)=true:=by simpa using hJ
      clear hR bM gh sN hJ;exact Ubo
     rw [if_neg Ua,if_neg bM] at hR;have dJ:decide ((ps.length:Int)<=(at_:Int)+1+N)=false:=by simpa using hJ
     obtain⟨j,hj⟩:∃j:Nat,j=((at_:Int)+1+N).toNat:=⟨_,rfl⟩;rw [<-hj] at hR;have mX:j<ps.length:=Ua;have jO:(j:Int)=(at_:Int)+1+N:=Ua;have hj11:op=10\/op=11:= .inr gh;clear bM gh sN hj
     go_upto_region 14 with fail
     go_quiet (fail)
     go_upto_region 16 with fail
     refine Jo fun V2 bz=>?_;have bK:=Nd V V2 Sk;have w0:=Ja bK v0;have wm:=Ja bK vm;have wq0:=Ja bK vq0;have wq1:=Ja bK vq1;have bL:=Nf (HV.out.step kM jt (J6.bel bK));have zd:=Nf (wS.out.later rB bK);have ke:=Nu w0;have mi:B<V2.heap.size:=Nr rB bK.size;clear bz bK v0 vm vq0 vq1 HV wS rB kM;have ak:=mY.out V2 ps (at_+1) w0 zd.out mi (by have:=eO.out;omega) pP (fun p hp=>(kc.out.all _ p hp).2.2.2.2);rw [show((at_+1:Nat):Int)=(at_:Int)+1 by omega] at ak
     cases fG:Ja5 ps (at_+1) d (pf+1) with
     | none=>
      rw [fG] at hR ak;have hY:=Nf (show R.1=12 by rw [hR]);clear hR fG jO
      go_wp2_with (go_at_call 91;refine ak.mono ?_;rintro r V3 ⟨rfl,ip,dU⟩)
      go_ret;exact(bL.out.step ke jt dU).done (Jm hY.out.symm) (fun h=>absurd (hY.out.symm.trans h) Ux)
     | some ps1=>
      have uz:=(kc.out.more (Nat.le_succ at_)).come fG hd ⟨Ua,Ua⟩;have bI:=Jv1 fG;rw [fG] at hR ak;dsimp only at hR;rw [if_pos hj11] at hR;have dm:=fun V3 hx hp hb=>mY.out V3 ps1 j hx hp hb Ua Ua (fun p hp=>(uz.all _ p hp).2.2.2.2);rw [jO,bI] at dm;have HOK1:=Nf uz;have gK:gp≠B:=Ua;have hwx:W.heap.size≠B:=Ua;clear jO uz bI fG
      cases nO:Ja5 ps1 j d (pf+1) with
      | none=>
       rw [nO] at hR dm;have hY:=Nf (show R.1=12 by rw [hR]);clear hR nO
       go_wp2_with (first
        | (have hcX:=uA;go_at_call 91;refine(dm _ uA ip cZ).mono ?_;rintro r V4 ⟨rfl,bT,iA⟩)
        | (go_at_call 91;refine ak.mono ?_;rintro r V3 ⟨rfl,ip,dU⟩;have uA:=dU.cell (b:=X) jt w0;have cZ:B<V3.heap.size:=Nr mi dU.size;have wm3:=dU.cell (b:=gp) gK wm;have wq3:=dU.cell (b:=W.heap.size) hwx wq0;have wq4:=dU.cell (b:=W.heap.size) hwx wq1))
       go_ret;exact((bL.out.step ke jt dU).step (Nu uA) jt iA).done (Jm hY.out.symm) (fun h=>absurd (hY.out.symm.trans h) Ux)
      | some ps2=>
       rw [nO] at hR dm;dsimp only at hR;have hY:=Nf hR;clear hR nO
       go_wp2_with (first
        | (have hcX:=uA;go_at_call 91;refine(dm _ uA ip cZ).mono ?_;rintro r V4 ⟨rfl,bT,iA⟩)
        | (go_at_call 91;refine ak.mono ?_;rintro r V3 ⟨rfl,ip,dU⟩;have uA:=dU.cell (b:=X) jt w0;have cZ:B<V3.heap.size:=Nr mi dU.size;have wm3:=dU.cell (b:=gp) gK wm;have wq3:=dU.cell (b:=W.heap.size) hwx wq0;have wq4:=dU.cell (b:=W.heap.size) hwx wq1))
       go_ret;exact((bL.out.step ke jt dU).step (Nu uA) jt iA).done (Jm (by rw [hY.out])) (fun _=>by rw [hY.out];exact⟨bT,rfl⟩)
    ·have t10:(op == 10)=false:=Fb;have t11:(op == 11)=false:=Sy;have t10n:(op != 10)=true:=Fb;have hR:=sN.out;rw [if_neg Ua,if_neg bM] at hR;have hnj:¬(op=10\/op=11):=Ua;clear bM gh sN
     go_upto_region 14 with fail
     go_quiet (fail)
     go_upto_region 16 with fail
     refine Jo fun V2 bz=>?_;have bK:=Nd V V2 Sk;have w0:=Ja bK v0;have wm:=Ja bK vm;have wq0:=Ja bK vq0;have wq1:=Ja bK vq1;have bL:=Nf (HV.out.step kM jt (J6.bel bK));have zd:=Nf (wS.out.later rB bK);have ke:=Nu w0;have mi:B<V2.heap.size:=Nr rB bK.size;clear bz bK v0 vm vq0 vq1 HV wS rB kM;have ak:=mY.out V2 ps (at_+1) w0 zd.out mi (by have:=eO.out;omega) pP (fun p hp=>(kc.out.all _ p hp).2.2.2.2);rw [show((at_+1:Nat):Int)=(at_:Int)+1 by omega] at ak
     cases fG:Ja5 ps (at_+1) d (pf+1) with
     | none=>
      rw [fG] at hR ak;have hY:=Nf (show R.1=12 by rw [hR]);clear hR fG
      go_wp2_with (go_at_call 91;refine ak.mono ?_;rintro r V3 ⟨rfl,ip,dU⟩)
      go_ret;exact(bL.out.step ke jt dU).done (Jm hY.out.symm) (fun h=>absurd (hY.out.symm.trans h) Ux)
     | some ps1=>
      rw [fG] at hR ak;dsimp only at hR;rw [if_neg hnj] at hR;have hY:=Nf hR;clear hR fG
      go_wp2_with (go_at_call 91;refine ak.mono ?_;rintro r V3 ⟨rfl,ip,dU⟩)
      go_ret;exact(bL.out.step ke jt dU).done (Jm (by rw [hY.out])) (fun _=>by rw [hY.out];exact⟨ip,rfl⟩)
end Go.Proofs.YtknfcamdfdfoeaaGreatDoor
