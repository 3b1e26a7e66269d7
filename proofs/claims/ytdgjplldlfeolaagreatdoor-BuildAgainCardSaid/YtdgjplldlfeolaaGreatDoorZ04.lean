/- Lemmas. -/
import Derived.Test.YtdgjplldlfeolaaGreatDoorZ01
import Derived.Test.YtdgjplldlfeolaaGreatDoorRows
import Derived.Test.YtdgjplldlfeolaaGreatDoorZ02
import Derived.Maps.Keyed
import Derived.DeepKeys4
set_option linter.unusedVariables false
set_option linter.unusedSimpArgs false
set_option maxRecDepth 100000
set_option maxHeartbeats 64000000
namespace Go.Proofs.YtdgjplldlfeolaaGreatDoor
open Go.RowKit Go.Sort
theorem Jqk (e:Ex) (A:Option Addr) (cap:Nat) (w:World) (he:Jt w e A cap) :
  Calls Tryz.prog 49 #[exV e A cap] w fun r w'=>r = .returned (.bool e.literal)/\Below w.heap.size w w':=by
 have hl:=he.len;unfold maxLen at hl;obtain⟨bI,aD⟩:=hl;have hv:e.literal=if e.right=0 then(if e.kind=4/\e.n=1 then(match e.sub with|x :: _=>x.kind == 1 | []=>false) else(e.kind == 1 || e.kind == 2)) else false:=rfl;have aB:=fun W h=>Jnc e A cap W (he.later h);unfold exV at aB ⊢
 cases h1:(e.right != 0)
 case true=>
  rw [if_neg (by intro h;rw [h] at h1;simp at h1)] at hv;have HV:=Lib.hid hv;clear hv
  go_enter Tryz.func49,Tryz.ntmps49
  go_wp2_with (first|(go_at_call 21;refine mo (aB _ Jb) fun w1 ac ak af bV=>?_;(try simp at af)))
  go_ret;exact⟨Jk HV.out.symm,Jb⟩
 have eV:=Jei h1;rw [if_pos eV] at hv
 cases h2:(e.kind == 4)
 case false=>
  rw [if_neg (by rintro⟨h,_⟩;rw [h] at h2;simp at h2)] at hv
  cases h3:(e.kind == 1)
  case true=>
   rw [h3,Bool.true_or] at hv;clear eV;have HV:=Lib.hid hv;clear hv
   go_enter Tryz.func49,Tryz.ntmps49
   go_wp2_with (first|(go_at_call 21;refine mo (aB _ Jb) fun w1 ac ak af bV=>?_;(try simp at af)))
   go_ret;exact⟨Jk HV.out.symm,Jb⟩
  rw [h3,Bool.false_or] at hv;clear eV;have HV:=Lib.hid hv;clear hv
  go_enter Tryz.func49,Tryz.ntmps49
  go_wp2_with (first|(go_at_call 21;refine mo (aB _ Jb) fun w1 ac ak af bV=>?_;(try simp at af)))
  go_ret;exact⟨Jk HV.out.symm,Jb⟩
 have iA:=Jbf h2
 cases h4:(e.n == 1)
 case false=>
  rw [if_neg (by rintro⟨_,h⟩;rw [h] at h4;simp at h4),iA] at hv;clear eV iA;have h5:(e.kind == 1)=false:=by rw [Jbf h2];rfl
  replace hv:e.literal=false:=by rw [hv];rfl
  have HV:=Lib.hid hv;clear hv
  go_enter Tryz.func49,Tryz.ntmps49
  go_wp2_with (first|(go_at_call 21;refine mo (aB _ Jb) fun w1 ac ak af bV=>?_;(try simp at af)))
  go_ret;exact⟨Jk (by rw [HV.out,Jbf h2];rfl),Jb⟩
 rw [if_pos ⟨iA,Jbf h4⟩] at hv;have hf:=(Ex.right_zero.1 eV).2.2;rw [Ex.formed_eq,Jl,iA] at hf
 have ai:e.sub.length=1:=by
  simp only [Jw,Bool.and_eq_true] at hf;have:=Jbf hf.1.1.1.1.1.2;simp at this;omega
 clear hf;have hx:e.sub[0]?=some e.sub[0]:=List.getElem?_eq_getElem (by omega);generalize e.sub[0]=x at hx
 have aT:e.sub = [x]:=by
  generalize e.sub=l at ai hx
  match l,ai,hx with
  | [y],_,h=>simp at h;rw [h]
 rw [aT] at hv;obtain⟨b,off,A',cap',rfl,c0,c1,c2,c3,hs⟩:=he.get hx;have ax:=block_lt_of_cell c0;dsimp only at ax;have hb0':b<w.heap.size+1:=by omega
 have oo:0<e.sub.length:=by omega
 simp only [Nat.zero_mul,Nat.add_zero] at c0;clear eV iA hx ai c1 c2 c3;have HS:=Lib.hid aT;clear aT;have HV:=Lib.hid hv;clear hv
 go_enter Tryz.func49,Tryz.ntmps49
 go_wp2_with (first|(go_at_call 21;refine mo (aB _ Jb) fun w1 ac ak af bV=>?_;(try simp at af)))
 go_ret;exact⟨Jk HV.out.symm,Jb⟩
theorem Je0 (v:Va) (own:Bool) (w:World) :
  Calls Tryz.prog 48 #[vaV v,.bool own] w fun r w'=>r = .returned (.bool (Ke v own))/\Below w.heap.size w w':=by
 unfold Ke vaV
 cases h1:Kz v.name
 ·go_enter Tryz.func48,Tryz.ntmps48
  go_wp2_with (first|(go_at_call 47;refine mo (Qt _ _) fun w1 ac ak af bV=>?_;(try simp at af)))
  all_goals (go_ret;exact⟨Jk rfl,Jb⟩)
 cases h2:Kz v.cn <;> cases own <;>
 ·go_enter Tryz.func48,Tryz.ntmps48
  go_wp2_with (first|(go_at_call 47;refine mo (Qt _ _) fun w1 ac ak af bV=>?_;(try simp at af)))
  all_goals (first|(exfalso;simp_all;done)|(go_ret;exact⟨Jk (by simp_all),Jb⟩)|go_ways)
theorem Jon:(Tryz.prog.info? 73).map (fun i=>(i.zero,i.size,i.bytes))=some (some (.agg #[.int .i64 0,.int .i32 0,.string ⟨#[]⟩,.slice none 0 0]),4,56):=by kernel_rfl
theorem Jls {α:Type} (l:List α):l = []\/∃(a:List α) (b:α),l=a ++ [b]:=by
 rcases List.eq_nil_or_concat l with h|⟨a,b,h⟩
 ·exact .inl h
 ·exact .inr ⟨a,b,by rw [h,List.concat_eq_append]⟩
theorem Jw8 {w:World} {base size n m cap:Nat} {e:TypeId} {D:Option Addr} {xs ys:List Value} (h:w.ownsRow base e size (.slice D (n+m) cap) (n+m) (xs ++ ys)) (hx:xs.length=n * size):w.ownsRow base e size (.slice D n cap) n xs:=by
 refine⟨hx,?_⟩
 rcases h.2 with ⟨hv,h0⟩|⟨g,cap',cur,hv,hg,hh,h1,h2,h3,h4⟩
 ·injection hv with e1 e2 e3;subst e1 e3;obtain rfl:n=0:=by omega
  exact .inl ⟨rfl,rfl⟩
 ·injection hv with e1 e2 e3;subst e1 e3;refine .inr ⟨g,cap,cur,rfl,hg,hh,by omega,h2,h3,?_⟩;have:(cur.toList.take ((n+m) * size)).take (n * size)=xs:=by rw [h4,List.take_append_of_le_length (by omega),<-hx,List.take_length]
  rwa [List.take_take,Nat.min_eq_left (Nat.mul_le_mul_right _ (by omega))] at this
theorem Jj7:∀(l:List Ex) (ls:List (Option Addr×Nat)),ls.length=l.length->(Ya l ls).length=l.length * 4
 | [],[],_=>rfl
 | y :: l,b :: ls,h=>by
  have:=Jj7 l ls (by simpa using h);rw [Ya,List.length_append,this];simp [exC];omega
 | [],b :: ls,h=>by simp at h
 | y :: l,[],h=>by simp at h
theorem Jot:∀(l m:List Ex) (ls ms:List (Option Addr×Nat)),ls.length=l.length->Ya (l ++ m) (ls ++ ms)=Ya l ls ++ Ya m ms
 | [],m,[],ms,_=>by simp [Ya]
 | y :: l,m,b :: ls,ms,h=>by
  simp only [List.cons_append,Ya,List.append_assoc];rw [Jot l m ls ms (by simpa using h)]
 | [],m,b :: ls,ms,h=>by simp at h
 | y :: l,m,[],ms,h=>by simp at h
theorem Xv.lies {w:World} {b:Nat} : ∀(l:List Ex) (off:Nat),Xv w b l off->∃ls:List (Option Addr×Nat),ls.length=l.length/\(∀j u,(Ya l ls)[j]?=some u->w.cell? ⟨b,off+j,none⟩=some u)/\∀(j:Nat) (x:Ex) (a:Option Addr×Nat),l[j]?=some x->ls[j]?=some a->Jt w x a.1 a.2
 | [],off,_=>⟨[],rfl,by simp [Ya],by simp⟩
 | y :: l,off,h=>by
  rw [Xv] at h;obtain⟨⟨A,cap,c0,c1,c2,c3,hs⟩,hr⟩:=h;obtain⟨ls,h1,h2,h3⟩:=Xv.lies l (off+4) hr;refine⟨(A,cap) :: ls,by simp [h1],fun j u hj=>?_,fun j x a hx ha=>?_⟩
  ·rw [Ya] at hj
   match j with
   | 0=>
     obtain rfl:Value.int .i64 y.kind=u:=by simpa [exC] using hj
     exact c0
   | 1=>
     obtain rfl:Value.int .i32 y.n=u:=by simpa [exC] using hj
     exact c1
   | 2=>
     obtain rfl:Value.string y.name=u:=by simpa [exC] using hj
     exact c2
   | 3=>
     obtain rfl:Value.slice A y.sub.length cap=u:=by simpa [exC] using hj
     exact c3
   | j+4=>
    have:=h2 j u (by simpa [exC] using hj)
    rwa [show off+4+j=off+(j+4) from by omega] at this
  ·cases j with
   | zero=>
    simp at hx ha;subst hx ha;exact hs
   | succ j=>exact h3 j x a (by simpa using hx) (by simpa using ha)
theorem Jt.lies {w:World} {e:Ex} {A:Option Addr} {cap:Nat} (h:Jt w e A cap):∃ls:List (Option Addr×Nat),ls.length=e.sub.length/\X6 w A e.sub.length 4 (Ya e.sub ls)/\∀(j:Nat) (x:Ex) (a:Option Addr×Nat),e.sub[j]?=some x->ls[j]?=some a->Jt w x a.1 a.2:=by
 rw [Jao] at h
 rcases Nat.eq_zero_or_pos e.sub.length with h0|h0
 ·have hn:e.sub = []:=List.eq_nil_of_length_eq_zero h0;rw [hn];exact⟨[],rfl,⟨rfl,fun h=>absurd h (by simp)⟩,by simp⟩
 ·obtain⟨b,off,rfl,hr⟩:=h.2.2 h0;obtain⟨ls,h1,h2,h3⟩:=Xv.lies _ _ hr;exact⟨ls,h1,⟨Jj7 _ _ h1,fun _=>⟨b,off,rfl,h2⟩⟩,h3⟩
def Jca (w0 w:World) (base:Nat) (t:TypeId) (st:List Ex) (D:Option Addr) (dc:Nat):Prop:=
 ∃ls:List (Option Addr×Nat),ls.length=st.length/\(∀(j:Nat) (x:Ex) (a:Option Addr×Nat),st[j]?=some x->ls[j]?=some a->Jt w0 x a.1 a.2)/\w.ownsRow base t 4 (.slice D st.length dc) st.length (Ya st ls)
theorem Jca.pop {w0 w:World} {base:Nat} {t:TypeId} {st:List Ex} {x:Ex} {D:Option Addr} {dc:Nat} (h:Jca w0 w base t (st ++ [x]) D dc) :
  ∃b A cap,D=some ⟨b,0,none⟩/\base<=b/\b<w.heap.size/\st.length+1<=dc/\dc<=maxLen/\Jt w0 x A cap/\w.cell? ⟨b,st.length * 4,none⟩=some (.int .i64 x.kind)/\w.cell? ⟨b,st.length * 4+1,none⟩=some (.int .i32 x.n)/\
   w.cell? ⟨b,st.length * 4+2,none⟩=some (.string x.name)/\w.cell? ⟨b,st.length * 4+3,none⟩=some (.slice A x.sub.length cap)/\Jca w0 w base t st D dc:=by
 obtain⟨ls,hl,hs,ae⟩:=h
 rcases Jls ls with rfl|⟨ls',a,rfl⟩
 ·simp at hl
 ·have qM:ls'.length=st.length:=by simpa using hl
  rw [Jih st ls' x a qM,List.length_append] at ae;obtain⟨g,cap,hv,hg,am,h1,h2,hc⟩:=Kc ae (by simp);injection hv with e1 e2 e3;subst e1 e3;have ai:=Jj7 st ls' qM;have ev:∀i u,(exC x a)[i]?=some u->w.cell? ⟨g,st.length * 4+i,none⟩=some u:=fun i u hu=>hc _ _ (by rw [List.getElem?_append_right (by omega),ai,show st.length * 4+i-st.length * 4=i from by omega];exact hu);refine⟨g,a.1,a.2,rfl,hg,am,by simpa using h1,h2,hs st.length x a (by simp) (by rw [<-qM];simp),ev 0 _ rfl,ev 1 _ rfl,ev 2 _ rfl,ev 3 _ rfl,ls',qM,fun j y b hy hb=>?_,Jw8 ae ai⟩;have hj:j<st.length:=(List.getElem?_eq_some_iff.1 hy).1;exact hs j y b (by rw [List.getElem?_append_left hj];exact hy) (by rw [List.getElem?_append_left (by omega)];exact hb)
theorem Jca.push {w0 w:World} {base:Nat} {t:TypeId} {st sub:List Ex} {ls ms:List (Option Addr×Nat)} {D:Option Addr} {dc:Nat} (hl:ls.length=st.length) (hs:∀(j:Nat) (x:Ex) (a:Option Addr×Nat),st[j]?=some x->ls[j]?=some a->Jt w0 x a.1 a.2)
  (hm:ms.length=sub.length) (bd:∀(j:Nat) (x:Ex) (a:Option Addr×Nat),sub[j]?=some x->ms[j]?=some a->Jt w0 x a.1 a.2) (ae:w.ownsRow base t 4 (.slice D (st.length+sub.length) dc) (st.length+sub.length) (Ya st ls ++ Ya sub ms)):Jca w0 w base t (st ++ sub) D dc:=by
 refine⟨ls ++ ms,by simp [hl,hm],fun j x a hx ha=>?_,by rw [Jot _ _ _ _ hl,List.length_append];exact ae⟩
 rcases Nat.lt_or_ge j st.length with hj|hj
 ·rw [List.getElem?_append_left hj] at hx;rw [List.getElem?_append_left (by omega)] at ha;exact hs j x a hx ha
 ·rw [List.getElem?_append_right hj] at hx;rw [List.getElem?_append_right (by omega),hl] at ha;exact bd _ x a hx ha
theorem X6.moved {w w':World} {A:Option Addr} {m size:Nat} {news:List Value} (h:X6 w A m size news) (hb:Below w.heap.size w w'):X6 w' A m size news:=
 ⟨h.1,fun hm=>by
  obtain⟨b,off,e,hc⟩:=h.2 hm;exact⟨b,off,e,fun j u hj=>Ja hb (hc j u hj)⟩⟩
theorem Jox:∀(l:List Ex) (ls:List (Option Addr×Nat)),∀u∈Ya l ls,u.oneCell'=true
 | [],_,u,h=>by simp [Ya] at h
 | y :: l,[],u,h=>by simp [Ya] at h
 | y :: l,b :: ls,u,h=>by
  rw [Ya] at h
  rcases List.mem_append.1 h with h1|h1
  ·simp only [exC,List.mem_cons,List.not_mem_nil,or_false] at h1
   rcases h1 with rfl|rfl|rfl|rfl <;> rfl
  ·exact Jox l ls u h1
theorem Kv {a b c:World} {r:Option Nat} (h:a.grownBy b r) (k:b.grownBy c r):a.grownBy c r:=
 ⟨k.os.trans h.os,k.tape.trans h.tape,k.output.trans h.output,Nat.le_trans h.size k.size,fun i hi aS=>(k.block i (Nat.lt_of_lt_of_le hi h.size) aS).trans (h.block i hi aS)⟩
theorem K0 {a b:World} {r:Option Nat} (h:Below a.heap.size a b):a.grownBy b r:=⟨h.os,h.tape,h.output,h.size,fun i hi _=>h.block i hi⟩
theorem Qz:(Tryz.prog.info? 122).map (fun i=>(i.zero,i.size,i.bytes))=some (some (.agg #[.int .i64 0,.int .i32 0]),2,16):=by kernel_rfl
def cdC (l:List (Int×Int)):List Value:=l.flatMap fun x=>[.int .i64 x.1,.int .i32 x.2]
theorem Jma:∀l:List (Int×Int),(cdC l).length=l.length * 2
 | []=>rfl
 | x :: l=>by
  have:=Jma l;unfold cdC at this ⊢;rw [List.flatMap_cons,List.length_append,this,List.length_cons];simp;omega
theorem Jbr (a b:List (Int×Int)):cdC (a ++ b)=cdC a ++ cdC b:=by unfold cdC;simp
theorem Q2 (l:List (Int×Int)):∀u∈cdC l,u.oneCell'=true:=by
 intro u hu;unfold cdC at hu;rw [List.mem_flatMap] at hu;obtain⟨x,_,hx⟩:=hu;simp only [List.mem_cons,List.not_mem_nil,or_false] at hx
 rcases hx with rfl|rfl <;> rfl
theorem Joi:∀(l:List (Int×Int)) (k:Nat) (x:Int×Int),l[k]?=some x->(cdC l)[k * 2]?=some (.int .i64 x.1)/\(cdC l)[k * 2+1]?=some (.int .i32 x.2)
 | [],k,x,h=>by simp at h
 | y :: l,0,x,h=>by simp at h;subst h;exact⟨rfl,rfl⟩
 | y :: l,k+1,x,h=>by
  have:=Joi l k x (by simpa using h);have e:cdC (y :: l) = [.int .i64 y.1,.int .i32 y.2] ++ cdC l:=rfl;rw [e,show(k+1) * 2=2+k * 2 from by omega,List.getElem?_append_right (by simp),List.getElem?_append_right (by simp;omega)];simp only [List.length_cons,List.length_nil];rw [show 0+1+1=2 from rfl,show 2+k * 2-2=k * 2 from by omega,show 2+k * 2+1-2=k * 2+1 from by omega];exact this
def J3 (w:World) (l:List (Int×Int)) (A:Option Addr) (cap:Nat):Prop:=l.length<=cap/\cap<=maxLen/\X6 w A l.length 2 (cdC l)
theorem Jds {w w':World} {A:Option Addr} {m size:Nat} {news:List Value} (h:X6 w A m size news) (hb:Below w.heap.size w w'):X6 w' A m size news:=
 ⟨h.1,fun hm=>by
  obtain⟨b,off,hA,hc⟩:=h.2 hm;exact⟨b,off,hA,fun j u hj=>Ja hb (hc j u hj)⟩⟩
theorem J3.later {w w':World} {l:List (Int×Int)} {A:Option Addr} {cap:Nat} (h:J3 w l A cap) (hb:Below w.heap.size w w'):J3 w' l A cap:=⟨h.1,h.2.1,Jds h.2.2 hb⟩
theorem J3.of_own {w:World} {base:Nat} {e:TypeId} {l:List (Int×Int)} {v:Value} (h:w.ownsRow base e 2 v l.length (cdC l)):∃A cap,v = .slice A l.length cap/\J3 w l A cap:=by
 obtain⟨A,cap,rfl,h1,h2⟩:=Jv h;refine⟨A,cap,rfl,h1,h2,Jma l,fun hm=>?_⟩;obtain⟨g,c',hv,_,_,_,_,hc⟩:=Kc h hm;injection hv with e1 e2 e3;subst e1;exact⟨g,0,rfl,fun j u hj=>by rw [Nat.zero_add];exact hc j u hj⟩
structure Jbv where
 l:List (Int×Int)
 A:Option Addr
 cap:Nat
def Jbv.val (x:Jbv):Value:= .slice x.A x.l.length x.cap
def Je1 (w:World) (ps:List Jbv) (A:Option Addr):Prop:=(0<ps.length->∃b off,A=some ⟨b,off,none⟩/\∀(k:Nat) (x:Jbv),ps[k]?=some x->w.cell? ⟨b,off+k,none⟩=some x.val)/\∀x∈ps,J3 w x.l x.A x.cap
theorem Je1.later {w w':World} {ps:List Jbv} {A:Option Addr} (h:Je1 w ps A) (hb:Below w.heap.size w w'):Je1 w' ps A:=
 ⟨fun hl=>by
  obtain⟨b,off,hA,hc⟩:=h.1 hl;exact⟨b,off,hA,fun k x hk=>Ja hb (hc k x hk)⟩,fun x hx=>(h.2 x hx).later hb⟩
def Qu (ps:List Jbv):List (Int×Int):=ps.flatMap Jbv.l
theorem Js3 {ps:List Jbv} {k:Nat} {x:Jbv} (h:ps[k]?=some x):Qu (ps.take (k+1))=Qu (ps.take k) ++ x.l:=by
 unfold Qu;rw [List.take_add_one,h];simp
theorem Jnv {ps:List Jbv} {k:Nat} : (Qu (ps.take k)).length<=(Qu ps).length:=by
 have:Qu ps=Qu (ps.take k) ++ Qu (ps.drop k):=by unfold Qu;rw [<-List.flatMap_append,List.take_append_drop]
 rw [this,List.length_append];omega
end Go.Proofs.YtdgjplldlfeolaaGreatDoor
namespace Go.Proofs.YtdgjplldlfeolaaGreatDoor
open Go.RowKit Go.Sort Go.Maps Go.ChangeMaps Go.WideMaps
structure Jer (P:Program) (k:TypeId) {K:Type} (ok:K->Prop) (kv:K->Value) (kl:K->Lit):Prop where
 keyed:Keyed P k
 read:∀x,ok x->keyOf P k (kv x)=some (kl x)
 inj:∀x y,ok x->ok y->kl x=kl y->x=y
def Q3 (P:Program) (k e:TypeId) (q:IntKind) {K:Type} (ok:K->Prop) (kl:K->Lit) (w:World) (b n:Nat) (f:K->Option Int) (c:Nat):Prop:=
 ∃D:DataW Unit,w.ownsMap P k (plainElem P e) b n D/\Maps.Tidy D/\Maps.size D=c/\
  ∀x,ok x->Maps.has D (kl x)=(f x).isSome/\D.atKey (kl x) (.lit (.int q 0)) = .lit (.int q ((f x).getD 0))
section
variable {P:Program} {k e:TypeId} {q:IntKind} {K:Type} {ok:K->Prop} {kv:K->Value} {kl:K->Lit} {w w':World} {b n c:Nat} {f:K->Option Int}
theorem Q3.made (w:World):Q3 P k e q ok kl (w.alloc (.map #[] 0)) w.heap.size 0 (fun _=>none) 0:=
 ⟨.map [],World.ownsMap_made w P k _,Maps.tidy_empty,rfl,fun x _=>⟨rfl,rfl⟩⟩
theorem Q3.lt (h:Q3 P k e q ok kl w b n f c):b<w.heap.size:=by
 obtain⟨D,h1,_⟩:=h;exact h1.lt
theorem Q3.keep1 (h:Q3 P k e q ok kl w b n f c) (hb:w'.heap[b]?=w.heap[b]?):Q3 P k e q ok kl w' b n f c:=by
 obtain⟨D,⟨es,clock,hh,F,hs,hD⟩,h2⟩:=h;exact⟨D,⟨es,clock,hb.trans hh,F,hs,hD⟩,h2⟩
theorem Q3.bel (h:Q3 P k e q ok kl w b n f c) (hb:Below w.heap.size w w'):Q3 P k e q ok kl w' b n f c:=h.keep1 (hb.block b h.lt)
theorem Q3.more (h:Q3 P k e q ok kl w b n f c) {m:Nat} (hm:n<=m):Q3 P k e q ok kl w b m f c:=by
 obtain⟨D,h1,h2⟩:=h;exact⟨D,h1.mono hm,h2⟩
theorem Q3.same (h:Q3 P k e q ok kl w b n f c) {g:K->Option Int} (hg:∀x,ok x->g x=f x):Q3 P k e q ok kl w b n g c:=by
 obtain⟨D,h1,h2,h3,h4⟩:=h;exact⟨D,h1,h2,h3,fun x hx=>by rw [hg x hx];exact h4 x hx⟩
theorem Jr3 (ks:Jer P k ok kv kl) {ops:Array Oper} {rest:List Oper} {o:Oper} {a:Act} {Q:Exit->Act->World->Prop} (hg:o.guard=none) (m x v:Operand) (t:TypeId) (jf:o.op=Op.mapUpdate t m x v)
  (ht:P.underlying t=some (.map k e)) (he:P.underlying e=some (.int q))
  (b n:Nat) (f:K->Option Int) (c:Nat) (s:K) (i:Int) (hm:a.eval m = .map (some b)) (ae:Q3 P k e q ok kl w b n f c) (hn:n<1000000000) (hx:a.eval x=kv s) (hv:a.eval v = .int q i)
  (hs:ok s) (hi:(Lit.int q i).wf=true) (f':K->Option Int) (db:f' s=some i) (gO:∀y,ok y->y≠s->f' y=f y)
  (hK:∀w',Q3 P k e q ok kl w' b (n+1) f' (if (f s).isSome then c else c+1)->w.grownBy w' (some b)->wpList P ops Q rest (a.put o.dst undef) w'):wpList P ops Q (o :: rest) a w:=by
 obtain⟨D,h1,h2,hc,h3⟩:=ae;have fR:WideAt.IsKeyLit (kl s):=ks.keyed.key (ks.read s hs);refine wpList_mapUpdate_own w hg m x v t jf k e ks.keyed ht _ b n D hm h1 (by unfold maxLen;omega) _ _ _ hx hv (ks.read s hs) _ [] (plainElem_int he hi) fun w' h4 h5=>hK w' ⟨_,h4,h2.put fR _,?_,fun y hy=>?_⟩ h5
 ·rw [Maps.size_put h2,(h3 s hs).1,hc]
 ·by_cases oJ:y=s
  ·subst oJ;rw [has_put_same h2.isMap fR,atKey_put_same h2.isMap fR,db];simp
  ·have aS:kl y≠kl s:=fun h=>oJ (ks.inj y s hy hs h);rw [has_put_other aS,atKey_put_other aS,(h3 y hy).1,(h3 y hy).2,gO y hy oJ];exact⟨rfl,rfl⟩
end
def okS (s:ByteArray):Prop:=s.size<=maxLen
def klS (s:ByteArray):Lit:= .string s.data.toList
theorem Jc2 {P:Program} {k:TypeId} (hk:P.underlying k=some .string):Jer P k okS Value.string klS:=
 ⟨string_keyed hk,fun _ hs=>keyOf_string_mk hk hs,fun x y _ _ h=>by
  unfold klS at h;injection h with h
  ext1
  have:=congrArg List.toArray h;simpa using this⟩
def okC (c:Int×ByteArray):Prop:=I64 c.1/\c.2.size<=maxLen
def kvC (c:Int×ByteArray):Value:= .agg #[.int .i64 c.1,.string c.2]
def klC (c:Int×ByteArray):Lit:= .string (keyBytes [.int .i64 c.1,.string c.2.data.toList])
theorem Jok {n:Int} (h:I64 n):(Lit.int .i64 n).wf=true:=by
 unfold I64 at h;simp [Lit.wf,IntKind.min,IntKind.max,IntKind.signed,IntKind.bits];omega
theorem Jrm {x y:Int×ByteArray} (hx:okC x) (hy:okC y) (h:klC x=klC y):x=y:=by
 unfold klC at h;injection h with h
 have hw:∀z:Int×ByteArray,okC z->∀a∈[Lit.int .i64 z.1,Lit.string z.2.data.toList],a.keyWf:=by
  intro z hz a ha;simp only [List.mem_cons,List.not_mem_nil,or_false] at ha
  rcases ha with rfl|rfl
  ·exact Jok hz.1
  ·show z.2.data.toList.length<=maxLen;simpa using hz.2
 have:=keyBytes_inj (l:=[.int .i64 x.1,.string x.2.data.toList]) (l':=[.int .i64 y.1,.string y.2.data.toList]) ⟨rfl,trivial,trivial⟩ (hw x hx) (hw y hy) h;injection this with h1 h2;injection h1 with _ h1;injection h2 with h2;injection h2 with h2;refine Prod.ext h1 ?_
 ext1
 have:=congrArg List.toArray h2;simpa using this
theorem Jp8:(81:TypeId)<Tryz.prog.types.size:=of_decide_eq_true (by kernel_rfl)
theorem Jpk:KeyLaw Tryz.prog 81:=deep_law_laid Tryz.laidOut (m:=3) (by omega) Jp8 (by kernel_rfl) (by kernel_rfl)
theorem Juf (c:Int×ByteArray) (hc:okC c):keyOf Tryz.prog 81 (kvC c)=some (klC c):=by
 obtain⟨h1,h2⟩:=hc;have hk:Tryz.prog.keyType 81=true:=by kernel_rfl
 have hf:(kvC c).formed Tryz.prog 81=true:=by
  unfold kvC Value.formed;rw [Tryz.underlying81,Jeq];rfl
 have hw:=Jok h1
 have hl:Tryz.prog.keyLits (Tryz.prog.types.size+1) 81 (kvC c).cells.toList=some [.int .i64 c.1,.string c.2.data.toList]:=by
  obtain⟨n,hn⟩:∃n,Tryz.prog.types.size=n+1:=⟨Tryz.prog.types.size-1,(Nat.succ_pred_eq_of_pos (Nat.lt_of_le_of_lt (Nat.zero_le _) Jp8)).symm⟩;rw [hn];unfold Program.keyLits;rw [Tryz.underlying81];simp [kvC,Value.cells,Jeq,Jdi,Ja1,Program.keyLits,Tryz.underlying3,Tryz.underlying9,hw,h2]
 unfold keyOf;rw [Tryz.underlying81];simp only [hk,hf,hl,Bool.and_self,if_true,Option.map_some];rfl
theorem Jl0:Jer Tryz.prog 81 okC kvC klC:=⟨Keyed.of_law Jpk,Juf,fun _ _=>Jrm⟩
end Go.Proofs.YtdgjplldlfeolaaGreatDoor
namespace Go.Proofs.YtdgjplldlfeolaaGreatDoor
open Go.RowKit Go.Sort
def X9 (w:World) (l:List (Int×Int)) (r:Ending) (w':World):Prop:=(∃v,r = .returned v/\w'.ownsRow w.heap.size 122 2 v l.length (cdC l))/\Below w.heap.size w w'
theorem Jak (op n:Int) (w:World):Calls Tryz.prog 103 #[.int .i64 op,.int .i32 n] w fun r w'=>(r = .returned (.slice (some ⟨w.heap.size,0,none⟩) 1 1)/\w'.ownsRow w.heap.size 122 2 (.slice (some ⟨w.heap.size,0,none⟩) 1 1) 1 (cdC [(op,n)]))/\Below w.heap.size w w':=by
 go_enter Tryz.func103,Tryz.ntmps103
 go_wp2_with fail
 go_ret;refine⟨⟨rfl,?_⟩,Jb⟩;exact⟨rfl,.inr ⟨w.heap.size,1,#[.int .i64 op,.int .i32 n],rfl,Nat.le_refl _,heap_alloc_new w _,Nat.le_refl _,by unfold maxLen;omega,rfl,rfl⟩⟩
theorem Jc0 (ps:List Jbv) (A:Option Addr) (cap:Nat) (w:World) (hp:Je1 w ps A) (hl:(Qu ps).length<=1000000) (h1:ps.length<=1000000) :
  Calls Tryz.prog 102 #[.slice A ps.length cap] w (X9 w (Qu ps)):=by
 unfold X9
 go_enter Tryz.func102,Tryz.ntmps102
 go_wp2_with fail
 go_loopw [3,8] (fun v i wr=>∃(k:Nat),k<=ps.length/\i = .int .i64 k/\wr.ownsRow w.heap.size 122 2 v (Qu (ps.take k)).length (cdC (Qu (ps.take k)))/\Below w.heap.size w wr) (fun _ i _=>ps.length-(intOf i).toNat)
 case atStart=>exact⟨0,Nat.zero_le _,rfl,World.ownsRow_nil _ _ _ _,Below.refl _ _⟩
 case round=>
  obtain⟨k,hk,rfl,ae,ab⟩:=hrel
  by_cases am:k<ps.length
  ·obtain⟨x,hx⟩:∃x,ps[k]?=some x:=⟨_,List.getElem?_eq_getElem am⟩;obtain⟨b,off,rfl,hc⟩:=(hp.later ab).1 (by omega);have c0:=hc k x hx;have jT:=(hp.later ab).2 x (List.mem_of_getElem? hx);have aP:=Js3 hx;have gM:=@Jnv ps k;have tI:=@Jnv ps (k+1);rw [aP,List.length_append] at tI;obtain⟨xl,xA,xc⟩:=x;unfold Jbv.val at c0;dsimp only at *;have hz:=ab.size;have eZ:=Lib.hid aP;clear aP;clear hc hx
   go_wp2_with (first|(at_builtin;go_loud (refine K6 rfl (.tmp 12) (.tmp 13) 27 rfl w.heap.size 122 _ 2 16 Tryz.underlying27 Qz rfl (by omega) _ (Qu (ps.take k)).length (cdC (Qu (ps.take k))) xA xl.length xc (cdC xl) rfl ae rfl jT.2.2 (Q2 _) (by omega) (by omega) (by omega) ?_;intro v2 w2 ao aq)))
   go_roundw
   case rel=>exact⟨k+1,by omega,by go_num,by rw [eZ.out,Jbr,List.length_append];exact ao,ab.trans aq⟩
   case measure=>simp [intOf];omega
  ·obtain rfl:k=ps.length:=by omega
   rw [List.take_length] at ae
   go_wp2_with fail
   go_ret;exact⟨⟨_,rfl,ae⟩,ab⟩
end Go.Proofs.YtdgjplldlfeolaaGreatDoor
