/- Lemmas. -/
import Derived.Test.YtdgjplldlfeolaaGreatDoorMac
import Derived.RegionTactic
import Derived.BigRegion
import Derived.Test.YtdgjplldlfeolaaGreatDoorY00
import Derived.Laws.Entries
set_option linter.unusedVariables false
set_option linter.unusedSimpArgs false
set_option maxRecDepth 100000
set_option maxHeartbeats 64000000
namespace Go.Proofs.YtdgjplldlfeolaaGreatDoor
open Go.RowKit Go.Sort
theorem Jyd (l:List Va) (A:Option Addr) (cap:Nat) (hn:l.length<=1000000) (e:Ex) (hf:e.formed=true) (ih:∀x∈e.sub,OfP l A cap x) (Ae:Option Addr) (ce:Nat) (ck:Int) (cs:ByteArray) (w:World) (hg:Ql w) (he:Jt w e Ae ce) (hl:Ju w l A cap)
  (hk:e.kind=8) :
  Calls Tryz.prog 135 #[.slice A l.length cap,exV e Ae ce,.agg #[.int .i64 ck,.string cs]] w fun r w'=>r = .returned (.int .i64 (e.clk l (ck,cs)))/\Below w.heap.size w w':=by
 have rj:=fun W h=>Jhu l A cap e.name (K9 ck cs 1 e.name) W (hg.later h) (hl.later h) hn;have eF:=fun W h=>Ji6 l A cap e ih Ae ce 0 ⟨#[]⟩ W (hg.later h) (he.later h) (hl.later h);have ho:Jac l e.kind e.name ck cs=Jaw l e.name (K9 ck cs 1 e.name):=by unfold Jac;rw [hk];simp
 have bC:Jb3 e.kind e.name (ck,cs)=(0,⟨#[]⟩):=by unfold Jb3;rw [if_pos Ua]
 have bd:Ja0 e.kind e.name (ck,cs)=(0,⟨#[]⟩):=by unfold Ja0;rw [if_pos Ua]
 have t3:(e.kind == 3)=false:=Uk;have t8:(e.kind == 8)=true:=Uk;have t9:(e.kind == 9)=false:=Uk;have fM:=Jbt;have dp:=fun w=>Zt ck cs 1 e.name w;obtain⟨a0,a1⟩:=hg;have eC:0<w.heap.size:=Nu a0;clear hk hf ih;unfold exV;generalize K9 ck cs 1 e.name=bq at *;generalize sq:Jaw l e.name bq=tq at *
 by_cases hz:tq=0
 ·exact T5
 ·exact Bc
theorem Juj (l:List Va) (A:Option Addr) (cap:Nat) (hn:l.length<=1000000) (e:Ex) (hf:e.formed=true) (ih:∀x∈e.sub,OfP l A cap x) (Ae:Option Addr) (ce:Nat) (ck:Int) (cs:ByteArray) (w:World) (hg:Ql w) (he:Jt w e Ae ce) (hl:Ju w l A cap)
  (hk:e.kind=9) :
  Calls Tryz.prog 135 #[.slice A l.length cap,exV e Ae ce,.agg #[.int .i64 ck,.string cs]] w fun r w'=>r = .returned (.int .i64 (e.clk l (ck,cs)))/\Below w.heap.size w w':=by
 have rj:=fun W h=>Jhu l A cap e.name (K9 ck cs 2 e.name) W (hg.later h) (hl.later h) hn;have eF:=fun W h=>Ji6 l A cap e ih Ae ce 0 ⟨#[]⟩ W (hg.later h) (he.later h) (hl.later h);have ho:Jac l e.kind e.name ck cs=Jaw l e.name (K9 ck cs 2 e.name):=by unfold Jac;rw [hk];simp
 have bC:Jb3 e.kind e.name (ck,cs)=(0,⟨#[]⟩):=by unfold Jb3;rw [if_pos Ua]
 have bd:Ja0 e.kind e.name (ck,cs)=(0,⟨#[]⟩):=by unfold Ja0;rw [if_pos Ua]
 have t3:(e.kind == 3)=false:=Uk;have t8:(e.kind == 8)=false:=Uk;have t9:(e.kind == 9)=true:=Uk;have fM:=Jbt;have dp:=fun w=>Zt ck cs 2 e.name w;obtain⟨a0,a1⟩:=hg;have eC:0<w.heap.size:=Nu a0;clear hk hf ih;unfold exV;generalize K9 ck cs 2 e.name=bq at *;generalize sq:Jaw l e.name bq=tq at *
 by_cases hz:tq=0
 ·exact T5
 ·exact Bc
end Go.Proofs.YtdgjplldlfeolaaGreatDoor
namespace Go.Proofs.YtdgjplldlfeolaaGreatDoor
open Go.RowKit
def W32 (n:Int):Int:=IntKind.i32.wrap n
theorem Jpu (n:Int):W32 n=if 2147483648<=n % 4294967296 then n % 4294967296-4294967296 else n % 4294967296:=by
 unfold W32 IntKind.wrap;simp [IntKind.bits,IntKind.signed]
theorem Jvc (n:Int):I32 (W32 n):=by
 rw [Jpu];unfold I32;split <;> omega
theorem Jbn {n:Int} (h:I32 n):W32 n=n:=by
 unfold I32 at h;rw [Jpu];split <;> omega
def Jkg (b:Bool):Int:=if b=true then 1 else 0
def unF (op a:Int):Int:=if op=1 then W32 (-a) else if op=2 then Jkg (a == 0) else 0
def Jzm (a b:Int):Int:=if b=0 then 0 else W32 (a.tdiv b)
def Kak (op a b:Int):Int:=
 if op=1 then W32 (a+b)
 else if op=2 then W32 (a-b)
 else if op=3 then W32 (a * b)
 else if op=4 then Jzm a b
 else if op=5 then W32 (a-W32 (Jzm a b * b))
 else if op=6 then W32 (a * 2 ^ (b % 32).toNat)
 else if op=7 then a / 2 ^ (b % 32).toNat
 else if op=8 then bits .and .i32 a b
 else if op=9 then bits .or .i32 a b
 else if op=10 then bits .xor .i32 a b
 else if op=11 then Jkg (a == b)
 else if op=12 then Jkg (a != b)
 else if op=13 then Jkg (decide (a<b))
 else if op=14 then Jkg (decide (a<=b))
 else if op=15 then Jkg (decide (b<a))
 else if op=16 then Jkg (decide (b<=a))
 else 0
end Go.Proofs.YtdgjplldlfeolaaGreatDoor
namespace Go.Proofs.YtdgjplldlfeolaaGreatDoor
open Go.RowKit Go.Sort
theorem Kv {a b c:World} {r:Option Nat} (h:a.grownBy b r) (k:b.grownBy c r):a.grownBy c r:=
 ⟨k.os.trans h.os,k.tape.trans h.tape,k.output.trans h.output,Nat.le_trans h.size k.size,fun i hi aS=>(k.block i (Nr hi h.size) aS).trans (h.block i hi aS)⟩
theorem K0 {a b:World} {r:Option Nat} (h:Below a.heap.size a b):a.grownBy b r:=⟨h.os,h.tape,h.output,h.size,fun i hi _=>h.block i hi⟩
end Go.Proofs.YtdgjplldlfeolaaGreatDoor
