/- Lemmas. -/
import Derived.Test.YtknfcamdfdfoeaaGreatDoorMac
import Derived.Test.YtknfcamdfdfoeaaGreatDoorZ02
import Derived.Test.YtknfcamdfdfoeaaGreatDoorZ21
import Derived.Laws.CopyOwn
import Derived.Laws.MakeOwn
import Derived.Test.YtknfcamdfdfoeaaGreatDoorZ22
import Derived.Test.YtknfcamdfdfoeaaGreatDoorZ20
import Derived.Test.YtknfcamdfdfoeaaGreatDoorZ01
import Derived.Test.YtknfcamdfdfoeaaGreatDoorZ36
set_option linter.unusedVariables false
set_option linter.unusedSimpArgs false
set_option maxRecDepth 100000
set_option maxHeartbeats 64000000
namespace Go.Proofs.YtknfcamdfdfoeaaGreatDoor
open Go.RowKit Go.Sort
theorem Jgl:(Tryz.prog.info? 5).map (fun i=>(i.zero,i.size,i.bytes))=some (some (.int .u8 0),1,1):=Ug
theorem Jxv:(Tryz.prog.info? 40).map (fun i=>(i.zero,i.size,i.bytes))=some (some (.int .u32 0),1,4):=Ug
def Qc (w:World) (xs:List Value) (n:Nat) (A:Option Addr) (cap:Nat):Prop:=n<=cap/\cap<=maxLen/\X6 w A n 1 xs
theorem Qc.later {w w':World} {xs:List Value} {n:Nat} {A:Option Addr} {cap:Nat} (h:Qc w xs n A cap) (hb:Below w.heap.size w w'):Qc w' xs n A cap:=⟨h.1,h.2.1,Jds h.2.2 hb⟩
theorem Qc.of_own {w:World} {base:Nat} {e:TypeId} {xs:List Value} {n:Nat} {v:Value} (h:w.ownsRow base e 1 v n xs):∃A cap,v = .slice A n cap/\Qc w xs n A cap:=by
 obtain⟨A,cap,rfl,h1,h2⟩:=Jv h;refine⟨A,cap,rfl,h1,h2,h.1,fun hm=>?_⟩;exact Uct
theorem Qc.nil (w:World):Qc w [] 0 none 0:=⟨Nat.le_refl _,U2,rfl,fun h=>absurd h Ua⟩
theorem Qc.get {w:World} {xs:List Value} {n:Nat} {A:Option Addr} {cap:Nat} (h:Qc w xs n A cap) {k:Nat} {u:Value} (hk:xs[k]?=some u):∃b off,A=some ⟨b,off,none⟩/\b<w.heap.size/\w.cell? ⟨b,off+k,none⟩=some u:=by
 have hl:xs.length=n * 1:=h.2.2.1;have am:=(List.getElem?_eq_some_iff.1 hk).1;obtain⟨b,off,hA,hc⟩:=h.2.2.2 Ua;exact⟨b,off,hA,block_lt_of_cell (hc k u hk),hc k u hk⟩
theorem Qc.ads {w:World} {xs:List Value} {n:Nat} {A:Option Addr} {cap:Nat} (h:Qc w xs n A cap) (W:World) (hb:Below w.heap.size w W) (h0:0<xs.length):∃ad,A=some ad/\∀(j:Nat) (v:Value),xs[j]?=some v->W.cell? (ad.add j)=some v:=by
 have hl:xs.length=n * 1:=h.2.2.1;obtain⟨b,off,hA,hc⟩:=(h.later hb).2.2.2 Ua;exact⟨_,hA,fun j u hj=>by rw [show(⟨b,off,none⟩:Addr).add j=⟨b,off+j,none⟩ by unfold Addr.add;split <;> simp_all];exact hc j u hj⟩
def byU (l:List Int):List Value:=l.map (.int .u8)
def wdU (l:List Nat):List Value:=l.map fun(x:Nat)=>Value.int .u32 (Int.ofNat x)
def nuI (l:List Int):List Value:=l.map (.int .i32)
theorem Ji3 (l:List Int):(byU l).length=l.length:=by unfold byU;simp
theorem Jeu (a b:List Int):byU (a ++ b)=byU a ++ byU b:=by unfold byU;simp
theorem Jgm (l:List Int):∀u∈byU l,u.oneCell'=true:=by
 intro u hu;unfold byU at hu;obtain⟨x,_,rfl⟩:=List.mem_map.1 hu;exact Gd
theorem Jyi (a b:List Nat):wdU (a ++ b)=wdU a ++ wdU b:=by unfold wdU;simp
theorem Jyh {l:List Nat} {k x:Nat} (h:l[k]?=some x):(wdU l)[k]?=some (.int .u32 (x:Int)):=by unfold wdU;rw [List.getElem?_map,h];rfl
theorem Jx3 {l:List Int} {k:Nat} {x:Int} (h:l[k]?=some x):(nuI l)[k]?=some (.int .i32 x):=by unfold nuI;rw [List.getElem?_map,h];rfl
theorem Jgy:∀(k n:Nat),leB (k+1) n=leB k n ++ [((n / 256 ^ k % 256:Nat):Int)]
 | 0,n=>by simp [leB]
 | k+1,n=>by
  rw [leB,Jgy k (n / 256)]
  conv=>rhs;rw [leB]
  rw [List.cons_append,Nat.div_div_eq_div_mul,Nat.pow_succ,Nat.mul_comm 256]
theorem Jgt {w:World} {base g:Nat} {e:TypeId} {xs cur:List Value} {n cap:Nat} (hg:w.heap[g]?=some (.cells (splice cur 0 xs).toArray e (0,0))) (hb:base<=g) (hn:n<=cap) (hc:cap<=maxLen) (hx:xs.length=n) (hl:cur.length=cap) :
  w.ownsRow base e 1 (.slice (some ⟨g,0,none⟩) n cap) n xs:=by
 refine⟨Ua,.inr ⟨g,cap,_,rfl,hb,hg,hn,hc,?_,?_⟩⟩
 ·rw [List.size_toArray,length_splice _ _ _ Ua];omega
 ·unfold splice;rw [List.take_zero,List.nil_append,show(xs ++ cur.drop (0+xs.length)).toArray.toList=xs ++ cur.drop (0+xs.length) from rfl,List.take_append_of_le_length Ua,List.take_of_length_le Ua]
theorem Jln (a:Int) (w:World):Calls Tryz.prog 98 #[.int .i32 a] w fun r w'=>r = .returned (.int .u32 (Xh a:Nat))/\w'=w:=by
 have hv:IntKind.u32.wrap a=((Xh a:Nat):Int):=by
  unfold Xh;simp [IntKind.wrap,IntKind.bits,IntKind.signed];omega
 go_enter Tryz.func98,Tryz.ntmps98
 go_wp2_with fail
 go_ret;exact⟨by simp [hv],rfl⟩
def Y8 (w:World) (l:List Int) (r:Ending) (w':World):Prop:=(∃v,r = .returned (.tuple #[v,.int .i64 0])/\w'.ownsRow w.heap.size 5 1 v l.length (byU l))/\Below w.heap.size w w'
theorem Jm0 (l:List Int) (A:Option Addr) (cap n:Nat) (w:World) (hb:Qc w (byU l) l.length A cap) (hl:l.length<=100000) (hn:n<256) :
  Calls Tryz.prog 95 #[.slice A l.length cap,.int .i64 1,.int .u64 n] w (Y8 w (l ++ leB 1 n)):=by
 unfold Y8
 have hz:((n:Int) / 256 != 0)=false:=by
  have:(n:Int) / 256=0:=Ua;rw [this];rfl
 have jH:=fun W:World=>run_make (P:=Tryz.prog) W 98 5 (Tryz.prog.info? 5).get! (.int .u8 0) Tryz.underlying98 Ug Ug .i64 .i64 (l.length:Int) ((l.length:Int)+1) Ua Ua Ll Ua;rw [show(Tryz.prog.info? 5).get!.size=1 by kernel_rfl] at jH;simp only [show((l.length:Int)+1).toNat=l.length+1 by omega,show((l.length:Int)).toNat=l.length by omega,Nat.mul_one] at jH;have ij:=Ji3 l;have eg:=hb.ads;have HCP:=Lib.hid eg;clear hb eg
 go_enter Tryz.func95,Tryz.ntmps95
 go_wp2_with ((refine wpList_copy_splice rfl (.tmp 33) (.tmp 34) 98 98 rfl 5 Tryz.underlying98 Ug _ _ l.length (l.length+1) l.length cap rfl rfl w.heap.size 0 (madeCells (Value.int .u8 0).cells (l.length+1)).toList 5 F3 (byU l) Dl (fun h0=>⟨rfl,HCP.out _ (Jc (Below.refl _ _) _) h0⟩) Fd (Jgm l) w.heap.size w (Jc (Below.refl _ _) _) (Nat.le_refl _) ?_;intro w1 ay ac))
 have eo:=Jgt (base:=w.heap.size) ay (Nat.le_refl _) (show l.length<=l.length+1 by omega) U2 ij Gp;clear ay
 go_loopw [8,37] (fun v i wr=>∃k:Nat,k<=1/\i = .int .i64 k/\wr.ownsRow w.heap.size 5 1 v (l.length+k) (byU (l ++ leB k n))/\Below w.heap.size w wr) (fun _ i _=>1-(intOf i).toNat)
 case atStart=>exact⟨0,Ua,rfl,by simpa [leB] using eo,ac⟩
 case round=>
  obtain⟨k,hk,rfl,ae,ab⟩:=hrel;have hz:=ab.size;obtain⟨A2,c2,rfl,ak,dm⟩:=Jv ae;unfold maxLen at dm
  by_cases am:k<1
  ·exact Uem
  ·obtain rfl:k=1:=Ua
   go_wp2_with fail
   go_ret2
   exact⟨⟨_,rfl,Dk⟩,ab⟩
theorem Jig (l:List Int) (A:Option Addr) (cap n:Nat) (w:World) (hb:Qc w (byU l) l.length A cap) (hl:l.length<=100000) (hn:n<65536) :
  Calls Tryz.prog 95 #[.slice A l.length cap,.int .i64 2,.int .u64 n] w (Y8 w (l ++ leB 2 n)):=by
 unfold Y8
 have hz:((n:Int) / 65536 != 0)=false:=by
  have:(n:Int) / 65536=0:=Ua;rw [this];rfl
 have jH:=fun W:World=>run_make (P:=Tryz.prog) W 98 5 (Tryz.prog.info? 5).get! (.int .u8 0) Tryz.underlying98 Ug Ug .i64 .i64 (l.length:Int) ((l.length:Int)+2) Ua Ua Ll Ua;rw [show(Tryz.prog.info? 5).get!.size=1 by kernel_rfl] at jH;simp only [show((l.length:Int)+2).toNat=l.length+2 by omega,show((l.length:Int)).toNat=l.length by omega,Nat.mul_one] at jH;have ij:=Ji3 l;have eg:=hb.ads;have HCP:=Lib.hid eg;clear hb eg
 go_enter Tryz.func95,Tryz.ntmps95
 go_wp2_with ((refine wpList_copy_splice rfl (.tmp 33) (.tmp 34) 98 98 rfl 5 Tryz.underlying98 Ug _ _ l.length (l.length+2) l.length cap rfl rfl w.heap.size 0 (madeCells (Value.int .u8 0).cells (l.length+2)).toList 5 F3 (byU l) Dl (fun h0=>⟨rfl,HCP.out _ (Jc (Below.refl _ _) _) h0⟩) Fd (Jgm l) w.heap.size w (Jc (Below.refl _ _) _) (Nat.le_refl _) ?_;intro w1 ay ac))
 have eo:=Jgt (base:=w.heap.size) ay (Nat.le_refl _) (show l.length<=l.length+2 by omega) U2 ij Gp;clear ay
 go_loopw [8,37] (fun v i wr=>∃k:Nat,k<=2/\i = .int .i64 k/\wr.ownsRow w.heap.size 5 1 v (l.length+k) (byU (l ++ leB k n))/\Below w.heap.size w wr) (fun _ i _=>2-(intOf i).toNat)
 case atStart=>exact⟨0,Ua,rfl,by simpa [leB] using eo,ac⟩
 case round=>
  obtain⟨k,hk,rfl,ae,ab⟩:=hrel;have hz:=ab.size;obtain⟨A2,c2,rfl,ak,dm⟩:=Jv ae;unfold maxLen at dm
  by_cases am:k<2
  ·exact Uem
  ·obtain rfl:k=2:=Ua
   go_wp2_with fail
   go_ret2
   exact⟨⟨_,rfl,Dk⟩,ab⟩
theorem Jnb (l:List Int) (A:Option Addr) (cap n:Nat) (w:World) (hb:Qc w (byU l) l.length A cap) (hl:l.length<=100000) (hn:n<4294967296) :
  Calls Tryz.prog 95 #[.slice A l.length cap,.int .i64 4,.int .u64 n] w (Y8 w (l ++ leB 4 n)):=by
 unfold Y8
 have hz:((n:Int) / 4294967296 != 0)=false:=by
  have:(n:Int) / 4294967296=0:=Ua;rw [this];rfl
 have jH:=fun W:World=>run_make (P:=Tryz.prog) W 98 5 (Tryz.prog.info? 5).get! (.int .u8 0) Tryz.underlying98 Ug Ug .i64 .i64 (l.length:Int) ((l.length:Int)+4) Ua Ua Ll Ua;rw [show(Tryz.prog.info? 5).get!.size=1 by kernel_rfl] at jH;simp only [show((l.length:Int)+4).toNat=l.length+4 by omega,show((l.length:Int)).toNat=l.length by omega,Nat.mul_one] at jH;have ij:=Ji3 l;have eg:=hb.ads;have HCP:=Lib.hid eg;clear hb eg
 go_enter Tryz.func95,Tryz.ntmps95
 go_wp2_with ((refine wpList_copy_splice rfl (.tmp 33) (.tmp 34) 98 98 rfl 5 Tryz.underlying98 Ug _ _ l.length (l.length+4) l.length cap rfl rfl w.heap.size 0 (madeCells (Value.int .u8 0).cells (l.length+4)).toList 5 F3 (byU l) Dl (fun h0=>⟨rfl,HCP.out _ (Jc (Below.refl _ _) _) h0⟩) Fd (Jgm l) w.heap.size w (Jc (Below.refl _ _) _) (Nat.le_refl _) ?_;intro w1 ay ac))
 have eo:=Jgt (base:=w.heap.size) ay (Nat.le_refl _) (show l.length<=l.length+4 by omega) U2 ij Gp;clear ay
 go_loopw [8,37] (fun v i wr=>∃k:Nat,k<=4/\i = .int .i64 k/\wr.ownsRow w.heap.size 5 1 v (l.length+k) (byU (l ++ leB k n))/\Below w.heap.size w wr) (fun _ i _=>4-(intOf i).toNat)
 case atStart=>exact⟨0,Ua,rfl,by simpa [leB] using eo,ac⟩
 case round=>
  obtain⟨k,hk,rfl,ae,ab⟩:=hrel;have hz:=ab.size;obtain⟨A2,c2,rfl,ak,dm⟩:=Jv ae;unfold maxLen at dm
  by_cases am:k<4
  ·exact Uem
  ·obtain rfl:k=4:=Ua
   go_wp2_with fail
   go_ret2
   exact⟨⟨_,rfl,Dk⟩,ab⟩
theorem Jq2 (l x:List Int) (A:Option Addr) (cap:Nat) (A2:Option Addr) (cap2:Nat) (w:World) (hb:Qc w (byU l) l.length A cap) (hx:Qc w (byU x) x.length A2 cap2) (hl:l.length<=100000) (hn:x.length<=65535) :
  Calls Tryz.prog 97 #[.slice A l.length cap,.slice A2 x.length cap2] w (Y8 w (l ++ Jcs x)):=by
 unfold Y8;have iF:=fun W h=>Jig l A cap x.length W (hb.later h) hl Ua;unfold Y8 at iF;have hx1:=hx.1;have qh:=hx.2.1;unfold maxLen at qh;have cY:(l ++ leB 2 x.length).length=l.length+2:=by rw [List.length_append,Y4]
 rw [cY] at iF
 have ky:IntKind.u64.wrap (x.length:Int)=(x.length:Int):=by
  exact Uc8
 have HX:=Lib.hid hx;clear hb hx cY
 go_enter Tryz.func97,Tryz.ntmps97
 go_wp2_with (first
  | (go_at_call 95;refine(iF _ Jb).mono ?_;rintro r w1 ⟨⟨v,rfl,ae⟩,ac⟩;have af:=ac.size)
  | (at_builtin;go_loud (refine K6 rfl (.tmp 22) (.tmp 23) 98 rfl w.heap.size 5 _ 1 1 Tryz.underlying98 Jgl rfl Ua v (l.length+2) (byU (l ++ leB 2 x.length)) A2 x.length cap2 (byU x) rfl ae rfl (HX.out.later Jb).2.2 (Jgm _) Ua Ua Ua ?_;intro v2 w2 ao aq)))
 go_ret2
 exact⟨⟨v2,rfl,by unfold Jcs;rw [<-List.append_assoc,Jeu (l ++ leB 2 x.length),show(l ++ leB 2 x.length ++ x).length=l.length+2+x.length by simp [Y4];omega];exact ao⟩,ac.trans aq⟩
def Jax (l:List Nat):List Int:=l.flatMap (leB 4)
theorem Jrv (l:List Nat):(Jax l).length=4 * l.length:=by
 unfold Jax
 induction l with
 | nil=>rfl
 | cons x l ih=>rw [List.flatMap_cons,List.length_append,ih,Y4,List.length_cons];omega
theorem Jqi (l:List Nat) (x:Nat):Jax (l ++ [x])=Jax l ++ leB 4 x:=by unfold Jax;simp
theorem Kaj (x:Nat):byU (leB 4 x) = [.int .u8 ((x:Int) % 256),.int .u8 ((x:Int) / 256 % 256),.int .u8 ((x:Int) / 65536 % 256),.int .u8 ((x:Int) / 16777216 % 256)]:=by
 simp only [leB,byU,List.map_cons,List.map_nil];rw [Nat.div_div_eq_div_mul,Nat.div_div_eq_div_mul];exact Ul
theorem Jtd (l:List Nat) (A:Option Addr) (cap:Nat) (w:World) (hb:Qc w (wdU l) l.length A cap) (hl:l.length<=1000) (hx:∀x∈l,x<4294967296) :
  Calls Tryz.prog 99 #[.slice A l.length cap] w fun r w'=>(∃v,r = .returned v/\w'.ownsRow w.heap.size 5 1 v (Jax l).length (byU (Jax l)))/\Below w.heap.size w w':=by
 have jH:=fun W:World=>run_make (P:=Tryz.prog) W 98 5 (Tryz.prog.info? 5).get! (.int .u8 0) Tryz.underlying98 Ug Ug .i64 .i64 0 (4 * (l.length:Int)) Ua Ua Ll Ua;rw [show(Tryz.prog.info? 5).get!.size=1 by kernel_rfl] at jH;simp only [show(4 * (l.length:Int)).toNat=4 * l.length by omega,show(0:Int).toNat=0 by omega,Nat.mul_one] at jH;have ac:=hb.1;have aq:=hb.2.1;unfold maxLen at aq;have HB:=Lib.hid hb;have HX:=Lib.hid hx;clear hb hx
 go_enter Tryz.func99,Tryz.ntmps99
 go_wp2_with fail
 go_loopw [3,12] (fun v i wr=>∃k:Nat,k<=l.length/\i = .int .i64 k/\wr.ownsRow w.heap.size 5 1 v (4 * k) (byU (Jax (l.take k)))/\Below w.heap.size w wr) (fun _ i _=>l.length-(intOf i).toNat)
 case atStart=>
  refine⟨0,Ua,rfl,?_,Jc (Below.refl _ _) _⟩;exact⟨rfl,.inr ⟨w.heap.size,4 * l.length,_,rfl,Nat.le_refl _,heap_alloc_new w _,Ua,U2,by rw [size_madeCells];omega,by simp [Jax,byU]⟩⟩
 case round=>
  obtain⟨k,hk,rfl,ae,ab⟩:=hrel;have hz:=ab.size;obtain⟨A2,c2,rfl,ak,dm⟩:=Jv ae;unfold maxLen at dm
  by_cases am:k<l.length
  ·have hx:l[k]?=some l[k]:=List.getElem?_eq_getElem am;have aP:l.take (k+1)=l.take k ++ [l[k]]:=U6;have jN:=HX.out l[k] (List.getElem_mem am);generalize l[k]=x at hx aP jN;obtain⟨b,off,rfl,aH,ev⟩:=(HB.out.later ab).get (Jyh hx)
   have nn:byU (Jax (l.take (k+1)))=byU (Jax (l.take k)) ++ [.int .u8 ((x:Int) % 256),.int .u8 ((x:Int) / 256 % 256),.int .u8 ((x:Int) / 65536 % 256),.int .u8 ((x:Int) / 16777216)]:=by
    rw [aP,Jqi,Jeu,Kaj,show(x:Int) / 16777216 % 256=(x:Int) / 16777216 by omega]
   have vC:=Lib.hid nn;clear nn aP hx
   go_wp2_with (at_builtin;go_loud (refine K6 rfl (.tmp 16) (.tmp 28) 98 rfl w.heap.size 5 _ 1 1 Tryz.underlying98 Jgl rfl Ua (.slice A2 (4 * k) c2) (4 * k) (byU (Jax (l.take k))) (some ⟨wr.heap.size,0,none⟩) 4 4 [.int .u8 ((x:Int) % 256),.int .u8 ((x:Int) / 256 % 256),.int .u8 ((x:Int) / 65536 % 256),.int .u8 ((x:Int) / 16777216)] rfl Udk rfl ⟨rfl,fun _=>⟨wr.heap.size,0,rfl,fun j u hj=>by rw [Nat.zero_add,Kw];simpa using hj⟩⟩ Uv Ua Ua U7 ?_);intro v2 w2 ao aq)
   go_roundw
   case rel=>exact⟨k+1,Ua,Up,Sm,(Jc ab _).trans aq⟩
   case measure=>simp [intOf];omega
  ·obtain rfl:k=l.length:=Ua;rw [List.take_length] at ae
   go_wp2_with fail
   go_ret;exact⟨⟨_,rfl,by rw [Jrv];exact ae⟩,ab⟩
theorem Jul (op:Int):((op == 1)=false/\(op == 2)=false/\(op == 3)=false/\(op == 4)=false/\(op == 5)=false/\(op == 6)=false/\(op == 7)=false/\(op == 8)=false/\(op == 9)=false/\(op == 10)=false/\(op == 11)=false)\/
  op=1\/op=2\/op=3\/op=4\/op=5\/op=6\/op=7\/op=8\/op=9\/op=10\/op=11:=by
 simp only [beq_eq_false_iff_ne,ne_eq];omega
theorem Jdz (op:Int) (w:World):Calls Tryz.prog 122 #[.int .i64 op] w fun r w'=>r = .returned (.int .i64 (Qp op))/\Below w.heap.size w w':=by
 by_cases h1:op=1
 ·subst h1;exact Uc6
 by_cases bM:op=10
 ·subst bM;exact Uc6
 by_cases gh:op=11
 ·subst gh;exact Uc6
 have t1:(op == 1)=false:=Lw;have t10:(op == 10)=false:=Fb;have t11:(op == 11)=false:=Sy
 by_cases hg:1<op
 ·by_cases hl:op<10
  ·have hv:Qp op=1:=by unfold Qp;rw [if_neg h1,if_neg Ua,if_pos ⟨hg,hl⟩]
   exact Ubz
  ·have hv:Qp op=0:=by unfold Qp;rw [if_neg h1,if_neg Ua,if_neg (fun h=>hl h.2)]
   exact Ubz
 ·have hv:Qp op=0:=by unfold Qp;rw [if_neg h1,if_neg Ua,if_neg (fun h=>hg h.1)]
  exact Ubz
def Jbu (op:Int):Int:=if op=8 then 2 else if op=9 then 16 else if op=10\/op=11 then 65535 else 255
theorem Jm1 (op:Int) (w:World):Calls Tryz.prog 123 #[.int .i64 op] w fun r w'=>r = .returned (.int .i32 (Jbu op))/\w'=w:=by
 by_cases h:op=8\/op=9\/op=10\/op=11
 ·rcases h with rfl|rfl|rfl|rfl
  all_goals
   go_enter Tryz.func123,Tryz.ntmps123
   go_wp2_with fail
   go_ret;exact⟨Jm Ux,rfl⟩
 ·have t8:(op == 8)=false:=Uj;have t9:(op == 9)=false:=Uj;have t10:(op == 10)=false:=Uj;have t11:(op == 11)=false:=Uj;have hv:Jbu op=255:=by unfold Jbu;rw [if_neg Ua,if_neg Ua,if_neg Ua]
  clear h;have HV:=Lib.hid hv;clear hv
  go_enter Tryz.func123,Tryz.ntmps123
  go_wp2_with fail
  go_ret;exact⟨Jm HV.out.symm,rfl⟩
theorem Jrp (op:Int):(Qp op=0)\/(op=1/\Qp op=4)\/((op=8\/op=9)/\Qp op=1)\/((op=10\/op=11)/\Qp op=2)\/((2<=op/\op<=7)/\Qp op=1):=by
 unfold Qp
 repeat' split
 all_goals omega
theorem Joo {op n:Int} (h1:op=8\/op=9):Qj (op,n)=if n<1\/Jbu op<n then 9 else 0:=by
 rcases h1 with rfl|rfl
 ·simp only [Qj,Qp,Jbu]
  by_cases h:n<1\/2<n
  ·exact Tf
  ·simp [h];omega
 ·simp only [Qj,Qp,Jbu]
  by_cases h:n<1\/16<n
  ·exact Tf
  ·simp [h];omega
theorem Job {op n:Int} (h1:op=10\/op=11\/(2<=op/\op<=7)):Qj (op,n)=if n<0\/Jbu op<n then 10 else 0:=by
 rcases h1 with rfl|rfl|h1
 ·simp [Qj,Qp,Jbu]
 ·simp [Qj,Qp,Jbu]
 ·have hw:Qp op=1:=by unfold Qp;rw [if_neg Ua,if_neg Ua,if_pos Ua]
  have hm:Jbu op=255:=by unfold Jbu;rw [if_neg Ua,if_neg Ua,if_neg Ua]
  unfold Qj;rw [hw,hm];dsimp only;rw [if_neg Ux,if_neg Ux,if_neg (fun h=>Ua),if_neg (fun h=>Ua),if_neg (fun h=>absurd h.1 Ux)];exact Ul
def Jby (op n:Int) (w:World):Prop:=Calls Tryz.prog 89 #[.agg #[.int .i64 op,.int .i32 n]] w fun r w'=>r = .returned (.int .i64 (Qj (op,n)))/\Below w.heap.size w w'
theorem Jqz (op n:Int) (w:World) (h:Qp op=0):Jby op n w:=by
 unfold Jby
 have cO:=fun W=>Jdz op W;have hv:Qj (op,n)=9:=by unfold Qj;rw [if_pos h]
 exact Ua6
theorem Jqo (op n:Int) (w:World) (h:Qp op=4):Jby op n w:=by
 unfold Jby
 have cO:=fun W=>Jdz op W;have hv:Qj (op,n)=0:=by unfold Qj;rw [if_neg (by rw [h];decide),if_pos h]
 exact Ua6
theorem Jpc (op n:Int) (w:World) (h1:op=8\/op=9):Jby op n w:=by
 unfold Jby
 have cO:=fun W=>Jdz op W;have fp:=fun W=>Jm1 op W;have h:Qp op=1:=by rcases h1 with rfl|rfl <;> rfl
 have hr:=Joo (n:=n) h1;rw [h] at cO
 have tn:((op == 8)=true/\(op == 9)=false)\/((op == 8)=false/\(op == 9)=true):=by
  rcases h1 with rfl|rfl
  ·exact .inl ⟨rfl,rfl⟩
  ·exact .inr ⟨rfl,rfl⟩
 have eU:1<=Jbu op:=by rcases h1 with rfl|rfl <;> decide
 clear h h1;generalize Jbu op=m at *
 by_cases c1:n<1
 ·have hv:Qj (op,n)=9:=by rw [hr,if_pos (.inl c1)]
  have d1:decide (n<1)=true:=by simpa using c1
  clear hr c1 eU;exact Uar
 have d1:decide (n<1)=false:=by simpa using c1
 by_cases c2:m<n
 ·have hv:Qj (op,n)=9:=by rw [hr,if_pos (.inr c2)]
  have d2:decide (m<n)=true:=by simpa using c2
  clear hr c1 c2 eU;exact Uar
 ·have hv:Qj (op,n)=0:=by rw [hr,if_neg Ua]
  have d2:decide (m<n)=false:=by simpa using c2
  have d0:decide (n<0)=false:=Uj;clear hr c1 c2 eU;have HV:=Lib.hid hv;clear hv
  rcases tn with ⟨t8,t9⟩|⟨t8,t9⟩
  all_goals
   go_enter Tryz.func89,Tryz.ntmps89
   go_wp2_with (first|(go_at_call 122;refine(cO _).mono ?_;rintro r w1 ⟨rfl,ac⟩;have ⟨ak,af⟩:=aft ac;(try simp at af)))
   go_quiet ((go_at_call 123;exact Calls.quiet_of_same (fp _)))
   go_wp2_with fail
   refine Jo fun W1 bt=>?_;have q0:W1.cell? ⟨w.heap.size,0,none⟩=some (.int .i64 op):=Lj;have q1:W1.cell? ⟨w.heap.size,1,none⟩=some (.int .i32 n):=Lj;have aC:Below w.heap.size w W1:=G4;clear bt
   go_quiet ((go_at_call 123;exact Calls.quiet_of_same (fp _)))
   go_wp2_with fail
   go_ret;exact⟨Jm HV.out.symm,Jb⟩
theorem Jhs (op n:Int) (w:World) (h1:op=10\/op=11\/(2<=op/\op<=7)):Jby op n w:=by
 unfold Jby
 have cO:=fun W=>Jdz op W;have fp:=fun W=>Jm1 op W;have t8:(op == 8)=false:=Uj;have t9:(op == 9)=false:=Uj
 have dz:(Qp op == 0)=false/\(Qp op == 4)=false:=by
  have:Qp op=2\/Qp op=1:=by
   unfold Qp
   repeat' split
   all_goals omega
  rcases this with h|h <;> rw [h] <;> decide
 obtain⟨k0,k4⟩:=dz;have hr:=Job (n:=n) h1;clear h1;generalize Qp op=k at *;generalize Jbu op=m at *
 by_cases c1:n<0
 ·have hv:Qj (op,n)=10:=by rw [hr,if_pos (.inl c1)]
  have d1:decide (n<0)=true:=by simpa using c1
  clear hr c1;have HV:=Lib.hid hv;clear hv
  go_enter Tryz.func89,Tryz.ntmps89
  go_wp2_with (first|(go_at_call 122;refine(cO _).mono ?_;rintro r w1 ⟨rfl,ac⟩;have ⟨ak,af⟩:=aft ac;(try simp at af)))
  go_quiet ((go_at_call 123;exact Calls.quiet_of_same (fp _)))
  go_wp2_with fail
  refine Jo fun W1 bt=>?_;have q0:W1.cell? ⟨w.heap.size,0,none⟩=some (.int .i64 op):=Lj;have q1:W1.cell? ⟨w.heap.size,1,none⟩=some (.int .i32 n):=Lj;have aC:Below w.heap.size w W1:=G4;clear bt
  go_quiet ((go_at_call 123;exact Calls.quiet_of_same (fp _)))
  go_wp2_with fail
  exact Udf
 have d1:decide (n<0)=false:=by simpa using c1
 by_cases c2:m<n
 ·have hv:Qj (op,n)=10:=by rw [hr,if_pos (.inr c2)]
  have d2:decide (m<n)=true:=by simpa using c2
  exact B6
 ·have hv:Qj (op,n)=0:=by rw [hr,if_neg Ua]
  have d2:decide (m<n)=false:=by simpa using c2
  exact B6
theorem Jlr (op n:Int) (w:World):Jby op n w:=by
 rcases Jrp op with h|⟨h1,h⟩|⟨h1,h⟩|⟨h1,h⟩|⟨h1,h⟩
 ·exact Jqz op n w h
 ·exact Jqo op n w h
 ·exact Jpc op n w h1
 ·exact Jhs op n w Ua
 ·exact Jhs op n w Ua
theorem Ju4 {op N:Int} (h:Qj (op,N)=0) (hN:I32 N):Qp op=4/\op=1\/Qp op=2/\(Xh N:Int)=N/\N<=65535\/Qp op=1/\(Xh N:Int)=N/\N<=255:=by
 unfold I32 at hN;unfold Qj at h;dsimp only at h;unfold Xh
 by_cases h0:Qp op=0
 ·rw [if_pos h0] at h;exact absurd h Ux
 rw [if_neg h0] at h
 by_cases h4:Qp op=4
 ·left
  refine⟨h4,?_⟩;unfold Qp at h4
  repeat' split at h4
  all_goals omega
 rw [if_neg h4] at h
 by_cases h8:op=8/\(N<1\/2<N)
 ·rw [if_pos h8] at h;exact absurd h Ux
 rw [if_neg h8] at h
 by_cases h9:op=9/\(N<1\/16<N)
 ·rw [if_pos h9] at h;exact absurd h Ux
 rw [if_neg h9] at h
 by_cases h2:Qp op=2/\(N<0\/65535<N)
 ·rw [if_pos h2] at h;exact absurd h Ux
 rw [if_neg h2] at h
 by_cases h1:Qp op=1/\(N<0\/255<N)
 ·rw [if_pos h1] at h;exact absurd h Ux
 have hw:=Jlt op
 have h3:Qp op≠3:=by
  unfold Qp
  repeat' split
  all_goals omega
 exact Ua
theorem Jka (W:World) (c:Array Value) (t:TypeId) {u:Int} (hc:c = #[.int .u8 u]):Qc (W.alloc (.cells c t)) (byU [u]) 1 (some ⟨W.heap.size,0,none⟩) 1:=by
 subst hc;refine⟨Nat.le_refl _,U2,rfl,fun _=>⟨W.heap.size,0,rfl,fun j u hj=>?_⟩⟩;rw [Nat.zero_add,Kw];simpa [byU] using hj
theorem Js5 (op N:Int) (w:World) (h:Qj (op,N)=0) (hN:I32 N) (jf:1<=op/\op<=11) :
  Calls Tryz.prog 124 #[.agg #[.int .i64 op,.int .i32 N]] w (Y8 w (Jdm (op,N))):=by
 have aB:=fun w=>Jlr op N w;unfold Jby at aB;rw [h] at aB
 have ky:IntKind.u8.wrap op=op:=by
  exact Uc8
 have dS:=Jne N
 have nL:IntKind.u64.wrap ((Xh N:Nat):Int)=((Xh N:Nat):Int):=by
  exact Uc8
 have iF:∀(g:Nat) (W:World),Qc W (byU [op]) 1 (some ⟨g,0,none⟩) 1->Calls Tryz.prog 95 #[.slice (some ⟨g,0,none⟩) 1 1,.int .i64 (Qp op),.int .u64 (Xh N:Nat)] W (Y8 W (Jdm (op,N))):=by
  intro g W hc;unfold Jdm
  rcases Ju4 h hN with ⟨h1,_⟩|⟨h1,h2,h3⟩|⟨h1,h2,h3⟩
  ·dsimp only;rw [h1];exact Jnb [op] (some ⟨g,0,none⟩) 1 (Xh N) W hc Ul Ua
  ·dsimp only;rw [h1];exact Jig [op] (some ⟨g,0,none⟩) 1 (Xh N) W hc Ul Ua
  ·dsimp only;rw [h1];exact Jm0 [op] (some ⟨g,0,none⟩) 1 (Xh N) W hc Ul Ua
 have kT:=Lib.hid iF;have cO:=fun W=>Jdz op W;have mh:=fun W=>Jln N W;generalize Jdm (op,N)=bs at *;clear h hN iF;unfold Y8
 go_enter Tryz.func124,Tryz.ntmps124
 go_wp2_with (first|(go_at_call 89;refine(aB _).mono ?_;rintro r w1 ⟨rfl,ac⟩;have ⟨ak,af⟩:=aft ac;(try simp at af)))
 refine Jo fun W0 ag=>?_;have q0:W0.cell? ⟨w.heap.size,0,none⟩=some (.int .i64 op):=Uc;have q1:W0.cell? ⟨w.heap.size,1,none⟩=some (.int .i32 N):=Uc;have aC:Below w.heap.size w W0:=Uo;have hz:=aC.size;have su:=block_lt_of_cell q0;clear ag;have hS:∀w',Below W0.heap.size W0 w'->w'.cell? ⟨w.heap.size,0,none⟩=some (.int .i64 op)/\w'.cell? ⟨w.heap.size,1,none⟩=some (.int .i32 N):=fun w' hb=>⟨Ja hb q0,Ja hb q1⟩;have HS:=Lib.hid hS;have ar:=hS W0.drew (Jh (Below.refl _ _));have lA:Below W0.heap.size W0 W0.drew:=Jh (Below.refl _ _);have hds:W0.drew.heap.size=W0.heap.size:=rfl;clear hS q0 q1 su;refine Kd (fun w'=>w'.cell? ⟨w.heap.size,0,none⟩=some (.int .i64 op)/\w'.cell? ⟨w.heap.size,1,none⟩=some (.int .i32 N)) 14 2 Ug Gd ?_;simp only [List.size_toArray,List.length_cons,List.length_nil,Nat.zero_add,Nat.reduceAdd];refine Ji 0 ar ?_;refine Ji 1 ar ?_;refine Ji 2 ar ?_;refine Ji 4 ar ?_;refine Ji 5 ar ?_;refine Ji 7 ar ?_;refine Ji 8 ar ?_;refine Jfe (i:=3) (j:=6) Ug Um Um rfl rfl ?_ ?_
 ·refine Jj fun K hK=>?_;go_simp;refine hK _ _ ⟨HS.out _ (Jh (Jc (Below.refl _ _) _)),?_⟩;clear hK K
  try simp only [Act.put,sa1,sa2,sa3]
  refine Kb 6 ?_;refine Jj fun K hK=>?_;go_simp;refine(cO _).mono ?_;rintro r wf ⟨rfl,bZ⟩;dsimp only;have cT:Below W0.heap.size W0 wf:=Jd (Jh (Jc (Below.refl _ _) _)) bZ;refine hK _ _ ⟨HS.out wf cT,?_⟩;clear hK K
  try simp only [Act.put,sa1,sa2,sa3]
  have hcel:Qc wf (byU [op]) 1 (some ⟨W0.heap.size,0,none⟩) 1:=((Jka W0 #[.int .u8 op] 5 rfl).later (Jh (Below.refl _ _))).later bZ;refine Kb 9 ?_;refine Jj fun K hK=>?_;go_simp;refine(mh _).mono ?_;rintro r wp ⟨rfl,tF⟩;dsimp only;subst tF;refine hK _ _ ⟨HS.out _ cT,?_⟩;clear hK K
  try simp only [Act.put,sa1,sa2,sa3]
  have dr:=HS.out _ cT;refine Ji 10 dr ?_;refine Kb 11 ?_;refine Jj fun K hK=>?_;go_simp;refine(kT.out _ _ hcel).mono ?_;rintro r wz ⟨⟨v,rfl,ae⟩,gt⟩;dsimp only;have cF:Below W0.heap.size W0 wz:=Jd cT gt;refine hK _ _ ⟨HS.out wz cF,?_⟩;clear hK K
  try simp only [Act.put,sa1,sa2,sa3]
  have eI:=cT.size;have dk:=HS.out wz cF;refine Ji 12 dk ?_;refine Ji 13 dk ?_;refine Kh Ug ?_;refine Qx 14 ?_;refine Jj fun K hK=>?_;go_simp;refine hK _ _ ?_;clear hK K
  try simp only [Act.put,sa1,sa2,sa3]
  refine Qx 15 ?_;refine Jj fun K hK=>?_;go_simp;refine hK _ _ ?_;clear hK K
  try simp only [Act.put,sa1,sa2,sa3]
  refine Ki Ug ?_;have jh:Below w.heap.size w wz:=Jd aC cF;have fN:=K8 ae (show w.heap.size<=_ by first|omega|(simp;omega));clear ar dr dk kT
  go_wp2_with fail
  go_ret2
  exact⟨⟨_,rfl,fN⟩,jh⟩
 ·refine Jj fun K hK=>?_;go_simp;refine(cO _).mono ?_;rintro r wf ⟨rfl,bZ⟩;dsimp only;have cT:Below W0.heap.size W0 wf:=Jd lA bZ;refine hK _ _ ⟨HS.out wf cT,?_⟩;clear hK K
  try simp only [Act.put,sa1,sa2,sa3]
  have dr:=HS.out _ cT;have eI:=cT.size;refine Jfe (i:=3) (j:=9) Ug Um Um rfl rfl ?_ ?_
  ·refine Jj fun K hK=>?_;go_simp;refine hK _ _ ⟨HS.out _ (Jc cT _),?_⟩;clear hK K
   try simp only [Act.put,sa1,sa2,sa3]
   refine Kb 9 ?_;refine Jj fun K hK=>?_;go_simp;refine(mh _).mono ?_;rintro r wp ⟨rfl,tF⟩;dsimp only;subst tF;refine hK _ _ ⟨HS.out _ (Jc cT _),?_⟩;clear hK K
   try simp only [Act.put,sa1,sa2,sa3]
   refine Ji 10 (HS.out _ (Jc cT _)) ?_;exact Bn
  ·refine Jj fun K hK=>?_;go_simp;refine(mh _).mono ?_;rintro r wp ⟨rfl,tF⟩;dsimp only;subst tF;refine hK _ _ ⟨HS.out _ cT,?_⟩;clear hK K
   try simp only [Act.put,sa1,sa2,sa3]
   refine Ji 10 dr ?_;refine Kb 3 ?_;refine Jj fun K hK=>?_;go_simp;refine hK _ _ ⟨HS.out _ (Jc cT _),?_⟩;clear hK K
   try simp only [Act.put,sa1,sa2,sa3]
   exact Bn
end Go.Proofs.YtknfcamdfdfoeaaGreatDoor
