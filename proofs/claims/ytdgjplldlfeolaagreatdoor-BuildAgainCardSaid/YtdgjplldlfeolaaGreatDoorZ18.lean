/- Lemmas. -/
import Derived.Test.YtdgjplldlfeolaaGreatDoorZ04
import Derived.Test.YtdgjplldlfeolaaGreatDoorZ02
import Derived.Laws.CopyOwn
import Derived.Laws.MakeOwn
import Derived.Test.YtdgjplldlfeolaaGreatDoorTie
import Derived.Test.YtdgjplldlfeolaaGreatDoorCards
import Derived.Test.YtdgjplldlfeolaaGreatDoorZ01
import Derived.ProofKit
import Derived.LaidMore
import Derived.OpenShut
import Derived.Stop.Joined
set_option linter.unusedVariables false
set_option linter.unusedSimpArgs false
set_option maxRecDepth 100000
set_option maxHeartbeats 64000000
namespace Go.Proofs.YtdgjplldlfeolaaGreatDoor
open Go.RowKit Go.Sort
theorem Jgl:(Tryz.prog.info? 5).map (fun i=>(i.zero,i.size,i.bytes))=some (some (.int .u8 0),1,1):=by kernel_rfl
theorem Jxv:(Tryz.prog.info? 22).map (fun i=>(i.zero,i.size,i.bytes))=some (some (.int .u32 0),1,4):=by kernel_rfl
def Qc (w:World) (xs:List Value) (n:Nat) (A:Option Addr) (cap:Nat):Prop:=n<=cap/\cap<=maxLen/\X6 w A n 1 xs
theorem Qc.later {w w':World} {xs:List Value} {n:Nat} {A:Option Addr} {cap:Nat} (h:Qc w xs n A cap) (hb:Below w.heap.size w w'):Qc w' xs n A cap:=⟨h.1,h.2.1,Jds h.2.2 hb⟩
theorem Qc.of_own {w:World} {base:Nat} {e:TypeId} {xs:List Value} {n:Nat} {v:Value} (h:w.ownsRow base e 1 v n xs):∃A cap,v = .slice A n cap/\Qc w xs n A cap:=by
 obtain⟨A,cap,rfl,h1,h2⟩:=Jv h;refine⟨A,cap,rfl,h1,h2,h.1,fun hm=>?_⟩;obtain⟨g,c',hv,_,_,_,_,hc⟩:=Kc h hm;injection hv with e1 e2 e3;subst e1;exact⟨g,0,rfl,fun j u hj=>by rw [Nat.zero_add];exact hc j u hj⟩
theorem Qc.nil (w:World):Qc w [] 0 none 0:=⟨Nat.le_refl _,by unfold maxLen;omega,rfl,fun h=>absurd h (by omega)⟩
theorem Qc.get {w:World} {xs:List Value} {n:Nat} {A:Option Addr} {cap:Nat} (h:Qc w xs n A cap) {k:Nat} {u:Value} (hk:xs[k]?=some u):∃b off,A=some ⟨b,off,none⟩/\b<w.heap.size/\w.cell? ⟨b,off+k,none⟩=some u:=by
 have hl:xs.length=n * 1:=h.2.2.1;have am:=(List.getElem?_eq_some_iff.1 hk).1;obtain⟨b,off,hA,hc⟩:=h.2.2.2 (by omega);exact⟨b,off,hA,block_lt_of_cell (hc k u hk),hc k u hk⟩
theorem Qc.ads {w:World} {xs:List Value} {n:Nat} {A:Option Addr} {cap:Nat} (h:Qc w xs n A cap) (W:World) (hb:Below w.heap.size w W) (h0:0<xs.length):∃ad,A=some ad/\∀(j:Nat) (v:Value),xs[j]?=some v->W.cell? (ad.add j)=some v:=by
 have hl:xs.length=n * 1:=h.2.2.1;obtain⟨b,off,hA,hc⟩:=(h.later hb).2.2.2 (by omega);exact⟨_,hA,fun j u hj=>by rw [show(⟨b,off,none⟩:Addr).add j=⟨b,off+j,none⟩ by unfold Addr.add;split <;> simp_all];exact hc j u hj⟩
def byU (l:List Int):List Value:=l.map (.int .u8)
def wdU (l:List Nat):List Value:=l.map fun(x:Nat)=>Value.int .u32 (Int.ofNat x)
def nuI (l:List Int):List Value:=l.map (.int .i32)
theorem Ji3 (l:List Int):(byU l).length=l.length:=by unfold byU;simp
theorem Jeu (a b:List Int):byU (a ++ b)=byU a ++ byU b:=by unfold byU;simp
theorem Jgm (l:List Int):∀u∈byU l,u.oneCell'=true:=by
 intro u hu;unfold byU at hu;obtain⟨x,_,rfl⟩:=List.mem_map.1 hu;rfl
theorem Jyi (a b:List Nat):wdU (a ++ b)=wdU a ++ wdU b:=by unfold wdU;simp
theorem Jyh {l:List Nat} {k x:Nat} (h:l[k]?=some x):(wdU l)[k]?=some (.int .u32 (x:Int)):=by unfold wdU;rw [List.getElem?_map,h];rfl
theorem Jx3 {l:List Int} {k:Nat} {x:Int} (h:l[k]?=some x):(nuI l)[k]?=some (.int .i32 x):=by unfold nuI;rw [List.getElem?_map,h];rfl
theorem Jgy:∀(k n:Nat),leB (k+1) n=leB k n ++ [((n / 256 ^ k % 256:Nat):Int)]
 | 0,n=>by simp [leB]
 | k+1,n=>by
  rw [leB,Jgy k (n / 256)]
  conv=>rhs;rw [leB]
  rw [List.cons_append,Nat.div_div_eq_div_mul,Nat.pow_succ,Nat.mul_comm 256]
theorem Jgt {w:World} {base g:Nat} {e:TypeId} {xs cur:List Value} {n cap:Nat} (hg:w.heap[g]?=some (.cells (splice cur 0 xs).toArray e (0,0))) (hb:base<=g) (hn:n<=cap) (hc:cap<=maxLen) (hx:xs.length=n) (hl:cur.length=cap) :
  w.ownsRow base e 1 (.slice (some ⟨g,0,none⟩) n cap) n xs:=by
 refine⟨by omega,.inr ⟨g,cap,_,rfl,hb,hg,hn,hc,?_,?_⟩⟩
 ·rw [List.size_toArray,length_splice _ _ _ (by omega)];omega
 ·unfold splice;rw [List.take_zero,List.nil_append,show(xs ++ cur.drop (0+xs.length)).toArray.toList=xs ++ cur.drop (0+xs.length) from rfl,List.take_append_of_le_length (by omega),List.take_of_length_le (by omega)]
theorem Jln (a:Int) (w:World):Calls Tryz.prog 62 #[.int .i32 a] w fun r w'=>r = .returned (.int .u32 (Xh a:Nat))/\w'=w:=by
 have hv:IntKind.u32.wrap a=((Xh a:Nat):Int):=by
  unfold Xh;simp [IntKind.wrap,IntKind.bits,IntKind.signed];omega
 go_enter Tryz.func62,Tryz.ntmps62
 go_wp2_with fail
 go_ret;exact⟨by simp [hv],rfl⟩
def Y8 (w:World) (l:List Int) (r:Ending) (w':World):Prop:=(∃v,r = .returned (.tuple #[v,.int .i64 0])/\w'.ownsRow w.heap.size 5 1 v l.length (byU l))/\Below w.heap.size w w'
theorem Jm0 (l:List Int) (A:Option Addr) (cap n:Nat) (w:World) (hb:Qc w (byU l) l.length A cap) (hl:l.length<=100000) (hn:n<256) :
  Calls Tryz.prog 59 #[.slice A l.length cap,.int .i64 1,.int .u64 n] w (Y8 w (l ++ leB 1 n)):=by
 unfold Y8
 have hz:((n:Int) / 256 != 0)=false:=by
  have:(n:Int) / 256=0:=by omega
  rw [this];rfl
 have jH:=fun W:World=>run_make (P:=Tryz.prog) W 50 5 (Tryz.prog.info? 5).get! (.int .u8 0) Tryz.underlying50 (by kernel_rfl) (by kernel_rfl) .i64 .i64 (l.length:Int) ((l.length:Int)+1) (by omega) (by omega) (by rw [show(Tryz.prog.info? 5).get!.bytes=1 by kernel_rfl];omega) (by omega);rw [show(Tryz.prog.info? 5).get!.size=1 by kernel_rfl] at jH;simp only [show((l.length:Int)+1).toNat=l.length+1 by omega,show((l.length:Int)).toNat=l.length by omega,Nat.mul_one] at jH;have ij:=Ji3 l;have eg:=hb.ads;have HCP:=Lib.hid eg;clear hb eg
 go_enter Tryz.func59,Tryz.ntmps59
 go_wp2_with ((refine wpList_copy_splice rfl (.tmp 33) (.tmp 34) 50 50 rfl 5 Tryz.underlying50 (by kernel_rfl) _ _ l.length (l.length+1) l.length cap rfl rfl w.heap.size 0 (madeCells (Value.int .u8 0).cells (l.length+1)).toList 5 (by rw [Array.toArray_toList];exact heap_alloc_new w _) (byU l) (by rw [ij];exact(Nat.min_self _).symm) (fun h0=>⟨rfl,HCP.out _ (Jc (Below.refl _ _) _) h0⟩) (by rw [ij];simp only [Array.length_toList,size_madeCells];omega) (Jgm l) w.heap.size w (Jc (Below.refl _ _) _) (Nat.le_refl _) ?_;intro w1 ay ac))
 have eo:=Jgt (base:=w.heap.size) ay (Nat.le_refl _) (show l.length<=l.length+1 by omega) (by unfold maxLen;omega) ij (by rw [Array.length_toList,size_madeCells]);clear ay
 go_loopw [8,37] (fun v i wr=>∃k:Nat,k<=1/\i = .int .i64 k/\wr.ownsRow w.heap.size 5 1 v (l.length+k) (byU (l ++ leB k n))/\Below w.heap.size w wr) (fun _ i _=>1-(intOf i).toNat)
 case atStart=>exact⟨0,by omega,rfl,by simpa [leB] using eo,ac⟩
 case round=>
  obtain⟨k,hk,rfl,ae,ab⟩:=hrel;have hz:=ab.size;obtain⟨A2,c2,rfl,ak,dm⟩:=Jv ae;unfold maxLen at dm
  by_cases am:k<1
  ·have ie:(n:Int) / 2 ^ (8 * k) % 256=((n / 256 ^ k % 256:Nat):Int):=by
    rw [show(256:Nat)=2 ^ 8 from rfl,<-Nat.pow_mul];simp
   have nn:byU (l ++ leB (k+1) n)=byU (l ++ leB k n) ++ [.int .u8 ((n:Int) / 2 ^ (8 * k) % 256)]:=by
    rw [Jgy,<-List.append_assoc,Jeu (l ++ leB k n),<-ie];rfl
   have vC:=Lib.hid nn;clear nn ie
   go_wp2_with (at_builtin;refine Kap rfl (.tmp 40) (.tmp 47) 50 rfl w.heap.size 5 _ 1 1 Tryz.underlying50 Jgl rfl (by omega) (.slice A2 (l.length+k) c2) (l.length+k) (byU (l ++ leB k n)) _ 1 [.int .u8 ((n:Int) / 2 ^ (8 * k) % 256)] rfl (by repeat (first|(with_reducible assumption)|refine Js ?_|refine Jy ?_ (by with_reducible assumption)|refine Kp ?_)) rfl rfl (fun j u hj=>by rw [Kw];simpa using hj) (by simp [Value.oneCell']) (by omega) (by omega) (by first|omega|(simp;omega)) ?_;intro v2 w2 ao aq;have br:=aq.size;(try simp at br))
   go_roundw
   case rel=>exact⟨k+1,by omega,by go_num,by rw [vC.out];exact ao,(Jc ab _).trans aq⟩
   case measure=>simp [intOf];omega
  ·obtain rfl:k=1:=by omega
   go_wp2_with fail
   go_ret2
   exact⟨⟨_,rfl,by rw [List.length_append,Y4];exact ae⟩,ab⟩
theorem Jig (l:List Int) (A:Option Addr) (cap n:Nat) (w:World) (hb:Qc w (byU l) l.length A cap) (hl:l.length<=100000) (hn:n<65536) :
  Calls Tryz.prog 59 #[.slice A l.length cap,.int .i64 2,.int .u64 n] w (Y8 w (l ++ leB 2 n)):=by
 unfold Y8
 have hz:((n:Int) / 65536 != 0)=false:=by
  have:(n:Int) / 65536=0:=by omega
  rw [this];rfl
 have jH:=fun W:World=>run_make (P:=Tryz.prog) W 50 5 (Tryz.prog.info? 5).get! (.int .u8 0) Tryz.underlying50 (by kernel_rfl) (by kernel_rfl) .i64 .i64 (l.length:Int) ((l.length:Int)+2) (by omega) (by omega) (by rw [show(Tryz.prog.info? 5).get!.bytes=1 by kernel_rfl];omega) (by omega);rw [show(Tryz.prog.info? 5).get!.size=1 by kernel_rfl] at jH;simp only [show((l.length:Int)+2).toNat=l.length+2 by omega,show((l.length:Int)).toNat=l.length by omega,Nat.mul_one] at jH;have ij:=Ji3 l;have eg:=hb.ads;have HCP:=Lib.hid eg;clear hb eg
 go_enter Tryz.func59,Tryz.ntmps59
 go_wp2_with ((refine wpList_copy_splice rfl (.tmp 33) (.tmp 34) 50 50 rfl 5 Tryz.underlying50 (by kernel_rfl) _ _ l.length (l.length+2) l.length cap rfl rfl w.heap.size 0 (madeCells (Value.int .u8 0).cells (l.length+2)).toList 5 (by rw [Array.toArray_toList];exact heap_alloc_new w _) (byU l) (by rw [ij];exact(Nat.min_self _).symm) (fun h0=>⟨rfl,HCP.out _ (Jc (Below.refl _ _) _) h0⟩) (by rw [ij];simp only [Array.length_toList,size_madeCells];omega) (Jgm l) w.heap.size w (Jc (Below.refl _ _) _) (Nat.le_refl _) ?_;intro w1 ay ac))
 have eo:=Jgt (base:=w.heap.size) ay (Nat.le_refl _) (show l.length<=l.length+2 by omega) (by unfold maxLen;omega) ij (by rw [Array.length_toList,size_madeCells]);clear ay
 go_loopw [8,37] (fun v i wr=>∃k:Nat,k<=2/\i = .int .i64 k/\wr.ownsRow w.heap.size 5 1 v (l.length+k) (byU (l ++ leB k n))/\Below w.heap.size w wr) (fun _ i _=>2-(intOf i).toNat)
 case atStart=>exact⟨0,by omega,rfl,by simpa [leB] using eo,ac⟩
 case round=>
  obtain⟨k,hk,rfl,ae,ab⟩:=hrel;have hz:=ab.size;obtain⟨A2,c2,rfl,ak,dm⟩:=Jv ae;unfold maxLen at dm
  by_cases am:k<2
  ·have ie:(n:Int) / 2 ^ (8 * k) % 256=((n / 256 ^ k % 256:Nat):Int):=by
    rw [show(256:Nat)=2 ^ 8 from rfl,<-Nat.pow_mul];simp
   have nn:byU (l ++ leB (k+1) n)=byU (l ++ leB k n) ++ [.int .u8 ((n:Int) / 2 ^ (8 * k) % 256)]:=by
    rw [Jgy,<-List.append_assoc,Jeu (l ++ leB k n),<-ie];rfl
   have vC:=Lib.hid nn;clear nn ie
   go_wp2_with (at_builtin;refine Kap rfl (.tmp 40) (.tmp 47) 50 rfl w.heap.size 5 _ 1 1 Tryz.underlying50 Jgl rfl (by omega) (.slice A2 (l.length+k) c2) (l.length+k) (byU (l ++ leB k n)) _ 1 [.int .u8 ((n:Int) / 2 ^ (8 * k) % 256)] rfl (by repeat (first|(with_reducible assumption)|refine Js ?_|refine Jy ?_ (by with_reducible assumption)|refine Kp ?_)) rfl rfl (fun j u hj=>by rw [Kw];simpa using hj) (by simp [Value.oneCell']) (by omega) (by omega) (by first|omega|(simp;omega)) ?_;intro v2 w2 ao aq;have br:=aq.size;(try simp at br))
   go_roundw
   case rel=>exact⟨k+1,by omega,by go_num,by rw [vC.out];exact ao,(Jc ab _).trans aq⟩
   case measure=>simp [intOf];omega
  ·obtain rfl:k=2:=by omega
   go_wp2_with fail
   go_ret2
   exact⟨⟨_,rfl,by rw [List.length_append,Y4];exact ae⟩,ab⟩
theorem Jnb (l:List Int) (A:Option Addr) (cap n:Nat) (w:World) (hb:Qc w (byU l) l.length A cap) (hl:l.length<=100000) (hn:n<4294967296) :
  Calls Tryz.prog 59 #[.slice A l.length cap,.int .i64 4,.int .u64 n] w (Y8 w (l ++ leB 4 n)):=by
 unfold Y8
 have hz:((n:Int) / 4294967296 != 0)=false:=by
  have:(n:Int) / 4294967296=0:=by omega
  rw [this];rfl
 have jH:=fun W:World=>run_make (P:=Tryz.prog) W 50 5 (Tryz.prog.info? 5).get! (.int .u8 0) Tryz.underlying50 (by kernel_rfl) (by kernel_rfl) .i64 .i64 (l.length:Int) ((l.length:Int)+4) (by omega) (by omega) (by rw [show(Tryz.prog.info? 5).get!.bytes=1 by kernel_rfl];omega) (by omega);rw [show(Tryz.prog.info? 5).get!.size=1 by kernel_rfl] at jH;simp only [show((l.length:Int)+4).toNat=l.length+4 by omega,show((l.length:Int)).toNat=l.length by omega,Nat.mul_one] at jH;have ij:=Ji3 l;have eg:=hb.ads;have HCP:=Lib.hid eg;clear hb eg
 go_enter Tryz.func59,Tryz.ntmps59
 go_wp2_with ((refine wpList_copy_splice rfl (.tmp 33) (.tmp 34) 50 50 rfl 5 Tryz.underlying50 (by kernel_rfl) _ _ l.length (l.length+4) l.length cap rfl rfl w.heap.size 0 (madeCells (Value.int .u8 0).cells (l.length+4)).toList 5 (by rw [Array.toArray_toList];exact heap_alloc_new w _) (byU l) (by rw [ij];exact(Nat.min_self _).symm) (fun h0=>⟨rfl,HCP.out _ (Jc (Below.refl _ _) _) h0⟩) (by rw [ij];simp only [Array.length_toList,size_madeCells];omega) (Jgm l) w.heap.size w (Jc (Below.refl _ _) _) (Nat.le_refl _) ?_;intro w1 ay ac))
 have eo:=Jgt (base:=w.heap.size) ay (Nat.le_refl _) (show l.length<=l.length+4 by omega) (by unfold maxLen;omega) ij (by rw [Array.length_toList,size_madeCells]);clear ay
 go_loopw [8,37] (fun v i wr=>∃k:Nat,k<=4/\i = .int .i64 k/\wr.ownsRow w.heap.size 5 1 v (l.length+k) (byU (l ++ leB k n))/\Below w.heap.size w wr) (fun _ i _=>4-(intOf i).toNat)
 case atStart=>exact⟨0,by omega,rfl,by simpa [leB] using eo,ac⟩
 case round=>
  obtain⟨k,hk,rfl,ae,ab⟩:=hrel;have hz:=ab.size;obtain⟨A2,c2,rfl,ak,dm⟩:=Jv ae;unfold maxLen at dm
  by_cases am:k<4
  ·have ie:(n:Int) / 2 ^ (8 * k) % 256=((n / 256 ^ k % 256:Nat):Int):=by
    rw [show(256:Nat)=2 ^ 8 from rfl,<-Nat.pow_mul];simp
   have nn:byU (l ++ leB (k+1) n)=byU (l ++ leB k n) ++ [.int .u8 ((n:Int) / 2 ^ (8 * k) % 256)]:=by
    rw [Jgy,<-List.append_assoc,Jeu (l ++ leB k n),<-ie];rfl
   have vC:=Lib.hid nn;clear nn ie
   go_wp2_with (at_builtin;refine Kap rfl (.tmp 40) (.tmp 47) 50 rfl w.heap.size 5 _ 1 1 Tryz.underlying50 Jgl rfl (by omega) (.slice A2 (l.length+k) c2) (l.length+k) (byU (l ++ leB k n)) _ 1 [.int .u8 ((n:Int) / 2 ^ (8 * k) % 256)] rfl (by repeat (first|(with_reducible assumption)|refine Js ?_|refine Jy ?_ (by with_reducible assumption)|refine Kp ?_)) rfl rfl (fun j u hj=>by rw [Kw];simpa using hj) (by simp [Value.oneCell']) (by omega) (by omega) (by first|omega|(simp;omega)) ?_;intro v2 w2 ao aq;have br:=aq.size;(try simp at br))
   go_roundw
   case rel=>exact⟨k+1,by omega,by go_num,by rw [vC.out];exact ao,(Jc ab _).trans aq⟩
   case measure=>simp [intOf];omega
  ·obtain rfl:k=4:=by omega
   go_wp2_with fail
   go_ret2
   exact⟨⟨_,rfl,by rw [List.length_append,Y4];exact ae⟩,ab⟩
theorem Jq2 (l x:List Int) (A:Option Addr) (cap:Nat) (A2:Option Addr) (cap2:Nat) (w:World) (hb:Qc w (byU l) l.length A cap) (hx:Qc w (byU x) x.length A2 cap2) (hl:l.length<=100000) (hn:x.length<=65535) :
  Calls Tryz.prog 61 #[.slice A l.length cap,.slice A2 x.length cap2] w (Y8 w (l ++ Jcs x)):=by
 unfold Y8;have iF:=fun W h=>Jig l A cap x.length W (hb.later h) hl (by omega);unfold Y8 at iF;have vK:=hx.1;have qh:=hx.2.1;unfold maxLen at qh;have cY:(l ++ leB 2 x.length).length=l.length+2:=by rw [List.length_append,Y4]
 rw [cY] at iF
 have ky:IntKind.u64.wrap (x.length:Int)=(x.length:Int):=by
  simp [IntKind.wrap,IntKind.bits,IntKind.signed];omega
 have HX:=Lib.hid hx;clear hb hx cY
 go_enter Tryz.func61,Tryz.ntmps61
 go_wp2_with (first
  | (go_at_call 59;refine(iF _ Jb).mono ?_;rintro r w1 ⟨⟨v,rfl,ae⟩,ac⟩;have af:=ac.size)
  | (at_builtin;go_loud (refine K6 rfl (.tmp 22) (.tmp 23) 50 rfl w.heap.size 5 _ 1 1 Tryz.underlying50 Jgl rfl (by omega) v (l.length+2) (byU (l ++ leB 2 x.length)) A2 x.length cap2 (byU x) rfl ae rfl (HX.out.later Jb).2.2 (Jgm _) (by omega) (by omega) (by omega) ?_;intro v2 w2 ao aq)))
 go_ret2
 exact⟨⟨v2,rfl,by unfold Jcs;rw [<-List.append_assoc,Jeu (l ++ leB 2 x.length),show(l ++ leB 2 x.length ++ x).length=l.length+2+x.length by simp [Y4];omega];exact ao⟩,ac.trans aq⟩
def Jax (l:List Nat):List Int:=l.flatMap (leB 4)
theorem Jrv (l:List Nat):(Jax l).length=4 * l.length:=by
 unfold Jax
 induction l with
 | nil=>rfl
 | cons x l ih=>rw [List.flatMap_cons,List.length_append,ih,Y4,List.length_cons];omega
theorem Jqi (l:List Nat) (x:Nat):Jax (l ++ [x])=Jax l ++ leB 4 x:=by unfold Jax;simp
theorem Kaj (x:Nat):byU (leB 4 x) = [.int .u8 ((x:Int) % 256),.int .u8 ((x:Int) / 256 % 256),.int .u8 ((x:Int) / 65536 % 256),.int .u8 ((x:Int) / 16777216 % 256)]:=by
 simp only [leB,byU,List.map_cons,List.map_nil];rw [Nat.div_div_eq_div_mul,Nat.div_div_eq_div_mul];simp
theorem Jtd (l:List Nat) (A:Option Addr) (cap:Nat) (w:World) (hb:Qc w (wdU l) l.length A cap) (hl:l.length<=1000) (hx:∀x∈l,x<4294967296) :
  Calls Tryz.prog 63 #[.slice A l.length cap] w fun r w'=>(∃v,r = .returned v/\w'.ownsRow w.heap.size 5 1 v (Jax l).length (byU (Jax l)))/\Below w.heap.size w w':=by
 have jH:=fun W:World=>run_make (P:=Tryz.prog) W 50 5 (Tryz.prog.info? 5).get! (.int .u8 0) Tryz.underlying50 (by kernel_rfl) (by kernel_rfl) .i64 .i64 0 (4 * (l.length:Int)) (by omega) (by omega) (by rw [show(Tryz.prog.info? 5).get!.bytes=1 by kernel_rfl];omega) (by omega);rw [show(Tryz.prog.info? 5).get!.size=1 by kernel_rfl] at jH;simp only [show(4 * (l.length:Int)).toNat=4 * l.length by omega,show(0:Int).toNat=0 by omega,Nat.mul_one] at jH;have ac:=hb.1;have aq:=hb.2.1;unfold maxLen at aq;have HB:=Lib.hid hb;have HX:=Lib.hid hx;clear hb hx
 go_enter Tryz.func63,Tryz.ntmps63
 go_wp2_with fail
 go_loopw [3,12] (fun v i wr=>∃k:Nat,k<=l.length/\i = .int .i64 k/\wr.ownsRow w.heap.size 5 1 v (4 * k) (byU (Jax (l.take k)))/\Below w.heap.size w wr) (fun _ i _=>l.length-(intOf i).toNat)
 case atStart=>
  refine⟨0,by omega,rfl,?_,Jc (Below.refl _ _) _⟩;exact⟨rfl,.inr ⟨w.heap.size,4 * l.length,_,rfl,Nat.le_refl _,heap_alloc_new w _,by omega,by unfold maxLen;omega,by rw [size_madeCells];omega,by simp [Jax,byU]⟩⟩
 case round=>
  obtain⟨k,hk,rfl,ae,ab⟩:=hrel;have hz:=ab.size;obtain⟨A2,c2,rfl,ak,dm⟩:=Jv ae;unfold maxLen at dm
  by_cases am:k<l.length
  ·have hx:l[k]?=some l[k]:=List.getElem?_eq_getElem am;have aP:l.take (k+1)=l.take k ++ [l[k]]:=by rw [List.take_succ_eq_append_getElem am]
   have jN:=HX.out l[k] (List.getElem_mem am);generalize l[k]=x at hx aP jN;obtain⟨b,off,rfl,aH,ev⟩:=(HB.out.later ab).get (Jyh hx)
   have nn:byU (Jax (l.take (k+1)))=byU (Jax (l.take k)) ++ [.int .u8 ((x:Int) % 256),.int .u8 ((x:Int) / 256 % 256),.int .u8 ((x:Int) / 65536 % 256),.int .u8 ((x:Int) / 16777216)]:=by
    rw [aP,Jqi,Jeu,Kaj,show(x:Int) / 16777216 % 256=(x:Int) / 16777216 by omega]
   have vC:=Lib.hid nn;clear nn aP hx
   go_wp2_with (at_builtin;go_loud (refine K6 rfl (.tmp 16) (.tmp 28) 50 rfl w.heap.size 5 _ 1 1 Tryz.underlying50 Jgl rfl (by omega) (.slice A2 (4 * k) c2) (4 * k) (byU (Jax (l.take k))) (some ⟨wr.heap.size,0,none⟩) 4 4 [.int .u8 ((x:Int) % 256),.int .u8 ((x:Int) / 256 % 256),.int .u8 ((x:Int) / 65536 % 256),.int .u8 ((x:Int) / 16777216)] rfl (by repeat (first|(with_reducible assumption)|refine Js ?_|refine Jy ?_ (by with_reducible assumption)|refine Kp ?_)) rfl ⟨rfl,fun _=>⟨wr.heap.size,0,rfl,fun j u hj=>by rw [Nat.zero_add,Kw];simpa using hj⟩⟩ (by simp [Value.oneCell']) (by omega) (by omega) (by first|omega|(simp;omega)) ?_);intro v2 w2 ao aq)
   go_roundw
   case rel=>exact⟨k+1,by omega,by go_num,by rw [vC.out];exact ao,(Jc ab _).trans aq⟩
   case measure=>simp [intOf];omega
  ·obtain rfl:k=l.length:=by omega
   rw [List.take_length] at ae
   go_wp2_with fail
   go_ret;exact⟨⟨_,rfl,by rw [Jrv];exact ae⟩,ab⟩
theorem Kct (l:List Int) (A:Option Addr) (cap:Nat) (B:Option Addr) (capB:Nat) (w:World) (h1:Qc w (nuI l) l.length A cap) (h2:Qc w (nuI l) l.length B capB) :
  Calls Tryz.prog 26 #[.slice A l.length cap,.slice B l.length capB] w fun r w'=>r = .returned (.bool true)/\Below w.heap.size w w':=by
 have l1:=h1.1;have l2:=h2.1;have m1:=h1.2.1;have m2:=h2.2.1;unfold maxLen at m1 m2
 go_enter Tryz.func26,Tryz.ntmps26
 go_wp2_with fail
 go_loopw [5] (fun i wr=>∃(k:Nat),k<=l.length/\i = .int .i64 k/\Below w.heap.size w wr) (fun i _=>l.length-(intOf i).toNat)
 case atStart=>exact⟨0,Nat.zero_le _,rfl,Below.refl _ _⟩
 case round=>
  obtain⟨k,hk,rfl,ab⟩:=hrel
  by_cases am:k<l.length
  ·have hx:l[k]?=some l[k]:=List.getElem?_eq_getElem am;generalize l[k]=x at hx;obtain⟨b,off,rfl,ac,c1⟩:=(h1.later ab).get (Jx3 hx);obtain⟨b2,off2,rfl,aq,c2⟩:=(h2.later ab).get (Jx3 hx);clear hx;have te:(x != x)=false:=by simp
   have aH:=ac;have bG:=aq
   go_wp2_with fail
   go_quiet (fail)
   go_wp2_with fail
   go_roundw
   case rel=>exact⟨k+1,by omega,by go_num,J8 ab _⟩
   case measure=>simp [intOf];omega
  ·obtain rfl:k=l.length:=by omega
   go_wp2_with fail
   go_ret;exact⟨rfl,ab⟩
end Go.Proofs.YtdgjplldlfeolaaGreatDoor
namespace Go.Proofs.YtdgjplldlfeolaaGreatDoor
open Go.ChangeShapes Go.WideShapes Go.ChangeAt Go.WideMaps Go.WideElems Go.RowKit
def Jk4:List (String×DataW Unit):=Rows.buildAgainRow.laid
theorem Jww (os:Os) (args:Array Value):laidMetH Tryz.prog Jk4 ((World.doorLaid Tryz.prog 400 os).forCall (fun _ _=>0) ⟨#[],args,[]⟩).memory:=
 laidMetH_of_parts3 (fuel:=8) (laidMet_of_run' 8 (by kernel_rfl) (by kernel_rfl)) (by kernel_rfl) (by kernel_rfl)
theorem Jyw {W:World} (h:laidMetH Tryz.prog Jk4 W):Ql W:=by
 rw [MakeChecks.laidMetH_plain _ _ _ (by kernel_rfl)] at h;obtain⟨ps,⟨g0,t0,cs0,f0,p0,q0,hg0,fQ,dD,lA,_,_⟩,_,_⟩:=h;obtain rfl:=Option.some.inj ((show Tryz.prog.globalNamed _=some 0 by kernel_rfl).symm.trans hg0);obtain rfl:=Option.some.inj ((show(Tryz.prog.globals[0]?).map (·.type)=some 81 by kernel_rfl).symm.trans fQ);obtain⟨xs,n,rfl,hx,ai,lB,hg⟩:=DataW.trod_struct Tryz.underlying81 lA;rw [Jeq] at ai;obtain⟨cs0⟩:=cs0;simp only [Prod.mk.injEq] at hx;obtain⟨hx,_⟩:=hx
 match cs0,ai,xs,lB with
 | [c0,c1],_,[y0,y1],_=>
  have k0:DataW.trod _ Tryz.prog W 0 _ _ n 3 (([c0,c1].drop 0).take (Tryz.prog.cellsOf 3))=some y0:=hg 0 _ rfl;have k1:DataW.trod _ Tryz.prog W 0 _ _ n 9 (([c0,c1].drop 1).take (Tryz.prog.cellsOf 9))=some y1:=hg 1 _ rfl;rw [Jdi] at k0;rw [Ja1] at k1;obtain⟨k,hk,jl,_⟩:=DataW.trod_int Tryz.underlying3 k0;obtain⟨s,hs,bV,_⟩:=DataW.trod_string Tryz.underlying9 k1;simp at hk hs;subst hk hs;subst jl bV;have hd:(DataW.agg [.lit (.int .i64 0),.lit (.string [])]:DataW Unit) = .agg [.lit (.int .i64 k),.lit (.string s.data.toList)]:=hx;injection hd with hd;injection hd with h1 h2;injection h1 with h1;injection h1 with _ h1;injection h2 with h2 _;injection h2 with h2;injection h2 with h2;have xe:s=⟨#[]⟩:=WideShapes.bytes_inj (by rw [<-h2]);subst h1 xe;have e0:=World.var?_cell hg0 dD 0;have e1:=World.var?_cell hg0 dD 1;exact⟨by simpa using e0,by simpa using e1⟩
section
variable {H:Type} {enc:TypeId×Value->H} {w:World} {spare:Nat->Bool} {held:Bool}
end
end Go.Proofs.YtdgjplldlfeolaaGreatDoor
