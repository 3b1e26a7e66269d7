/- Lemmas. -/
import Derived.Test.YtdgjplldlfeolaaGreatDoorZ14
import Derived.Test.YtdgjplldlfeolaaGreatDoorZ01
import Derived.Test.YtdgjplldlfeolaaGreatDoorZ02
import Derived.Test.YtdgjplldlfeolaaGreatDoorZ10
import Derived.WideKeyEntry
import Derived.OrdersHeld
import Derived.StillTail
import Derived.Test.YtdgjplldlfeolaaGreatDoorZ04
import Derived.Laws.RangeString
import Derived.Deep.RegionLaw
set_option linter.unusedVariables false
set_option linter.unusedSimpArgs false
set_option maxRecDepth 100000
set_option maxHeartbeats 64000000
namespace Go.Proofs.YtdgjplldlfeolaaGreatDoor
open Go.RowKit Go.Sort
def Jcf (c:Int×ByteArray):Value:= .agg #[.int .i64 c.1,.string c.2]
def J9 (L:List Va) (s:ByteArray):Int×ByteArray:=L.foldl (fun c v=>if s.data=v.name.data then(v.ck,v.cn) else c) (0,⟨#[]⟩)
def Jkd (f:ByteArray->Option Value) (L:List Va):Prop:=∀s,(f s).getD (Jcf (0,⟨#[]⟩))=Jcf (J9 L s)
theorem Jo8:Jkd (fun _=>none) []:=fun s=>rfl
theorem Jmq {f:ByteArray->Option Value} {L:List Va} (h:Jkd f L) (v:Va):Jkd (Jki f v.name (Jcf (v.ck,v.cn))) (L ++ [v]):=by
 intro s;unfold J9 Jki;rw [List.foldl_append];simp only [List.foldl_cons,List.foldl_nil]
 by_cases hs:s.data=v.name.data
 ·rw [if_pos hs,if_pos hs];rfl
 ·rw [if_neg hs,if_neg hs];exact h s
theorem Jfz (w:World):(zeroValue 81).run Tryz.prog w = .ok (Jcf (0,⟨#[]⟩)) w:=by kernel_rfl
def Z1 (L:List Va) (q:Qe):List ByteArray:=if (J9 L q.name).1=0 then Kx q.e else Kx q.e ++ [(J9 L q.name).2]
theorem Qn {a b c:World} {row:Option Nat} (h1:a.grownBy b row) (h2:b.grownBy c row):a.grownBy c row:=Yz h1 h2 (.inl rfl)
theorem Jzj:(Tryz.prog.info? 119).map (fun i=>(i.zero,i.size,i.bytes))=some (some (.slice none 0 0),1,24):=by kernel_rfl
theorem Qf.off_own {w:World} {base:Nat} {e:TypeId} {l:List ByteArray} {A:Option Addr} {cap:Nat} (h:w.ownsRow base e 1 (.slice A l.length cap) l.length (l.map .string)):Off base none w (fun V=>Qf V l A cap):=by
 intro w' jC
 rcases Nat.eq_zero_or_pos l.length with h0|h0
 ·exact⟨(Qf.of_own h).1,(Qf.of_own h).2.1,fun hl=>absurd hl (by omega)⟩
 ·obtain⟨g,c',hv,hg,am,h1,h2,hc⟩:=Kc h h0;injection hv with e1 e2 e3;subst e1 e3;refine⟨h1,h2,fun _=>⟨g,0,rfl,fun k s hk=>?_⟩⟩;rw [Nat.zero_add];exact Jr (jC g hg am (by simp)) (hc k _ (by simp [hk]))
def Jde (L:List Va) (eqs:List Qe) (g k:Nat) (w:World) (xs:List Value):Prop:=
 (∀(j:Nat) (q:Qe),j<k->eqs[j]?=some q->∃A cap,xs[j]?=some (.slice A (Z1 L q).length cap)/\Off (g+1) none w (fun V=>Qf V (Z1 L q) A cap))/\∀j,k<=j->j<eqs.length->xs[j]?=some (.slice none 0 0)
theorem Jt6 {w w':World} {base size n n' cap g:Nat} {e:TypeId} {xs:List Value} (h:w.ownsRow base e size (.slice (some ⟨g,0,none⟩) n' cap) n xs) (hb:w'.heap[g]?=w.heap[g]?):w'.ownsRow base e size (.slice (some ⟨g,0,none⟩) n' cap) n xs:=by
 obtain⟨h1,h2⟩:=h;refine⟨h1,?_⟩
 rcases h2 with h2|⟨g',cap',cur,hv,hg,hh,r⟩
 ·exact .inl h2
 ·refine .inr ⟨g',cap',cur,hv,hg,?_,r⟩;have hgg:g=g':=by injection hv with e1;injection e1 with e1;injection e1
  rw [<-hgg] at hh ⊢;rw [hb];exact hh
theorem Jde.step {L:List Va} {eqs:List Qe} {g k:Nat} {w w':World} {xs:List Value} {q:Qe} {A:Option Addr} {cap:Nat} (h:Jde L eqs g k w xs) (hw:∀b,g+1<=b->b<w.heap.size->w'.heap[b]?=w.heap[b]?) (hz:w.heap.size<=w'.heap.size)
  (hq:eqs[k]?=some q) (hx:k<xs.length) (fb:Off (g+1) none w' (fun V=>Qf V (Z1 L q) A cap)):Jde L eqs g (k+1) w' (xs.set k (.slice A (Z1 L q).length cap)):=by
 refine⟨fun j q' hj tt=>?_,fun j hj hl=>?_⟩
 ·rcases Nat.lt_or_ge j k with tB|tB
  ·obtain⟨A',cap',h1,h2⟩:=h.1 j q' tB tt;exact⟨A',cap',by rw [List.getElem?_set_ne (by omega)];exact h1,h2.grow (fun b hb am _=>hw b hb am) hz (.inl rfl)⟩
  ·obtain rfl:j=k:=by omega
   obtain rfl:q=q':=by rw [hq] at tt;injection tt
   exact⟨A,cap,by rw [List.getElem?_set_self hx],fb⟩
 ·rw [List.getElem?_set_ne (by omega)];exact h.2 j (by omega) hl
theorem Jsz (p:Pr) (a:PrA) (w:World) (hp:Kr w p a) (n1:p.ins.length<=1000000) (n2:p.outs.length<=1000000) (n3:p.locals.length<=1000000) (n4:p.eqs.length<=1000000) (hs:∀v∈Je p,v.name.size<=maxLen) (dn:∀q∈p.eqs,q.name.size<=maxLen/\q.e.OK/\q.e.size<=1000000) :
  Calls Tryz.prog 122 #[prV p a] w fun r w'=>(∃g xs,r = .returned (.slice (some ⟨g,0,none⟩) p.eqs.length p.eqs.length)/\w.heap.size<=g/\w'.ownsRow g 119 1 (.slice (some ⟨g,0,none⟩) p.eqs.length p.eqs.length) p.eqs.length xs/\Jde (Je p) p.eqs g p.eqs.length w' xs)/\Below w.heap.size w w':=by
 have aJ:=fun W h=>Jcv p a W (hp.later h) n1 n2 n3;have hL3:(Je p).length<=3000000:=by simp [Je];omega
 obtain⟨A1,c1,A2,c2,A3,c3,A4,c4⟩:=a;unfold prV at *;dsimp only at *;have gI:=@run_makeMap Tryz.prog;generalize hL:Je p=L at *;clear hL;have HS:=Lib.hid hs;clear hs;have jR:=Lib.hid dn;clear dn;have bT:=hp.eqs;have cG:=hp.eqs.len;unfold maxLen at cG;dsimp only at bT cG;obtain⟨fT,fU⟩:=cG;obtain⟨ti,hti0,hti1,hti2,hti3⟩:=info_parts Jzj;clear hp
 go_enter Tryz.func122,Tryz.ntmps122
 go_wp2_with (first|(go_at_call 118;refine(aJ _ Jb).mono ?_;rintro r wb ⟨⟨A,cap,rfl,ae⟩,aH⟩;have el:=Jg aH;have dH:=aH.size;(try simp at dH);have cA:w.heap.size<wb.heap.size:=(by omega);have ep:w.heap.size+1<wb.heap.size:=(by omega);have cR:=Ju.of_own ae))
 refine Jo fun W0 ag=>?_;have ax:Below w.heap.size w W0:=by rw [ag];exact Jb
 have bD:w.heap.size+1<W0.heap.size:=by rw [ag];exact ep
 have bE:Off (w.heap.size+2) none W0 (fun W=>Ju W L A cap):=by rw [ag];have:=Ju.off_own' ae;simpa using this
 have eU:Jaz Tryz.prog 9 W0 (w.heap.size+1) 0 (fun _=>none):=by
  rw [ag];have h1:=(Jaz.made (P:=Tryz.prog) (k:=9) (w.alloc (.cells #[.string p.name,.slice A1 p.ins.length c1,.slice A2 p.outs.length c2,.slice A3 p.locals.length c3,.slice A4 p.eqs.length c4] 38)));have h2:=h1.bel aH;simpa using h2
 have p4:W0.cell? ⟨w.heap.size,4,none⟩=some (.slice A4 p.eqs.length c4):=by rw [ag];go_simp
 have cY:=bE.here.len;unfold maxLen at cY;obtain⟨fH,fI⟩:=cY;clear ag ae cR el aH dH cA ep aJ gI
 go_loopw [14] (fun i wr=>∃(k n:Nat) (f:ByteArray->Option Value),k<=L.length/\i = .int .i64 k/\n<=k/\Hid (Jaz Tryz.prog 9 wr (w.heap.size+1) n f)/\Hid (Jkd f (L.take k))/\Hid (W0.grownBy wr (some (w.heap.size+1)))) (fun i _=>L.length-(intOf i).toNat)
 case atStart=>exact⟨0,0,_,Nat.zero_le _,rfl,Nat.le_refl _,Lib.hid eU,Lib.hid Jo8,Lib.hid ⟨rfl,rfl,rfl,Nat.le_refl _,fun _ _ _=>rfl⟩⟩
 case round=>
  obtain⟨k,n,f,hk,rfl,hn,hm,aN,bB⟩:=hrel;have eC:=bB.out.size
  by_cases am:k<L.length
  ·have hx:L[k]?=some L[k]:=List.getElem?_eq_getElem am;have aj:L[k]∈L:=List.getElem_mem am;have aP:L.take (k+1)=L.take k ++ [L[k]]:=by rw [List.take_succ_eq_append_getElem am]
   generalize L[k]=x at hx aj aP;have jg:Ju wr L A cap:=bE wr fun b h1 h2 _=>bB.out.block b h2 (by intro he;injection he with he;omega);obtain⟨b,off,rfl,aH,⟨d0,d1,d2,d3⟩⟩:=jg.get hx;have dT:=HS.out x aj;have jy:=Lib.hid (by rw [aP];exact Jmq aN.out x:Jkd (Jki f x.name (Jcf (x.ck,x.cn))) (L.take (k+1)));have ej:=hm.out;have bu:w.heap.size+1<wr.heap.size:=by omega
   clear hx aj aP jg aN
   go_wp2_with (first|(at_mapUpdate;go_loud (refine Jlj rfl (.tmp 18) (.tmp 20) (.tmp 22) 205 rfl Tryz.underlying9 Tryz.underlying205 (w.heap.size+1) n f x.name (Jcf (x.ck,x.cn)) rfl (ej.keep1 (heap_alloc_old _ _ bu)) (by omega) rfl rfl dT ?_;intro w2 cI aG;have kj:=Lib.hid cI;have kr:=Lib.hid aG;clear cI aG)))
   go_roundw
   case rel=>exact⟨k+1,n+1,_,by omega,by go_num,by omega,kj,jy,Lib.hid (Qn bB.out (Qn (World.grownBy_alloc wr _ _) kr.out))⟩
   case measure=>simp [intOf];omega
  ·obtain rfl:k=L.length:=by omega
   have iw:=hm.out;have mB:=aN.out;rw [List.take_length] at mB;have jy:=Lib.hid mB;have ez:=bB.out;have aC:Below w.heap.size w wr:=J2 ax ez (fun b hb=>by injection hb with hb;omega) (by omega);have q4:wr.cell? ⟨w.heap.size,4,none⟩=some (.slice A4 p.eqs.length c4):=Jr (ez.block w.heap.size (by omega) (by intro he;injection he with he;omega)) p4;have bu:w.heap.size+1<wr.heap.size:=by omega
   clear bB ez aN mB hm p4 bE
   go_wp2_with (first|(at_make;go_loud (refine wpList_make_full _ rfl (.tmp 26) (.tmp 26) 236 rfl wr.heap.size 119 ti _ 1 Tryz.underlying236 hti0 hti1 hti2 .i64 .i64 p.eqs.length p.eqs.length p.eqs.length rfl rfl rfl rfl (by rw [hti3];omega) (by unfold maxLen;omega) (Nat.le_refl _) ?_;intro w2 ao aG;have q42:w2.cell? ⟨w.heap.size,4,none⟩=some (.slice A4 p.eqs.length c4):=Jr (aG.block w.heap.size (by omega) (by simp)) q4;have sK:=Lib.hid ao;have kr:=Lib.hid aG;clear ao aG)))
   obtain⟨Wa,rfl⟩:∃Wa,Wa=wr:=⟨wr,rfl⟩;have iY:Below w.heap.size w w2:=J2 aC kr.out (fun b hb=>by simp at hb) (by omega);have br:Wa.heap.size<=w2.heap.size:=kr.out.size;have cI:Hid (Jaz Tryz.prog 9 w2 (w.heap.size+1) n f):=Lib.hid (iw.keep1 (kr.out.block _ (by omega) (by simp)));clear iw q4
   go_loopw [31] (fun i wr=>∃(k:Nat) (xs:List Value),k<=p.eqs.length/\i = .int .i64 k/\Hid (wr.ownsRow Wa.heap.size 119 1 (.slice (some ⟨Wa.heap.size,0,none⟩) p.eqs.length p.eqs.length) p.eqs.length xs)/\Hid (Jde L p.eqs Wa.heap.size k wr xs)/\Hid (w2.grownBy wr (some Wa.heap.size))) (fun i _=>p.eqs.length-(intOf i).toNat)
   case atStart=>
    refine⟨0,_,Nat.zero_le _,rfl,sK,Lib.hid ⟨fun j q hj=>absurd hj (by omega),fun j _ hj=>?_⟩,Lib.hid ⟨rfl,rfl,rfl,Nat.le_refl _,fun _ _ _=>rfl⟩⟩;rw [show(Value.slice none 0 0).cells = #[Value.slice none 0 0] from rfl,Nat.mul_one,toList_madeCells_one,List.getElem?_replicate,if_pos hj]
   case round=>
    obtain⟨k,xs,hk,rfl,ae,vE,bB⟩:=hrel;have eC:=bB.out.size;have dh:Below w.heap.size w wr:=J2 iY bB.out (fun b hb=>by injection hb with hb;omega) (by omega);have hGlt:Wa.heap.size<wr.heap.size:=(ae.out.lt Wa.heap.size rfl).2
    by_cases am:k<p.eqs.length
    ·obtain⟨q,hx,-,hd⟩:=Kl am;obtain⟨b,off,B1,n1,B2,n2,rfl,aH,⟨g0,g1,g2,g3,g4,g5,g6,g7,g8,g9,s1,s2⟩⟩:=(bT.later dh).get hx;have aj:=List.mem_of_getElem? hx;obtain⟨dw,gV,ju⟩:=jR.out q aj;have fP:=fun W h=>Jvk q.e B2 n2 W (s2.later h) gV ju;have e0:wr.cell? ⟨Wa.heap.size,k,none⟩=some (.slice none 0 0):=(ae.out.cellAt k (by omega)).trans (vE.out.2 k (Nat.le_refl _) am);have f0:wr.frozen? ⟨Wa.heap.size,k,none⟩=false:=ae.out.frozenAt k;have ej:=cI.out.keep1 (bB.out.block (w.heap.size+1) (by omega) (by intro he;injection he with he;omega));obtain⟨ck,cs,bO⟩:∃ck cs,J9 L q.name=(ck,cs):=⟨_,_,rfl⟩;have mK:=Lib.hid bO;clear bO;have HX:=Lib.hid hx;have yf:w.heap.size+1<wr.heap.size:=by omega
     unfold exV at fP;clear hd hx aj gV;have lB:xs.length=p.eqs.length:=by have:=ae.out.1;omega
     have HXL:=Lib.hid lB;clear lB
     by_cases ob:ck=0
     ·have t1:(ck != 0)=false:=by simpa using ob
      have hnq:Z1 L q=Kx q.e:=by unfold Z1;rw [mK.out,if_pos ob]
      have HNQ:=Lib.hid hnq;clear hnq ob
      go_wp2_with (first|(go_at_call 136;go_loud (refine(fP _ Jb).mono ?_;rintro r wn ⟨⟨vn,rfl,ay⟩,dI⟩;obtain⟨An,cn,rfl,eR,eu⟩:=Jv ay;have qJ:=Jg dI;have lF:=Jf dI;have qp:wr.heap.size+1<=wn.heap.size:=(by have:=dI.size;simpa using this);have xa:w.heap.size<wn.heap.size:=(by omega);have hyn1:w.heap.size+1<wn.heap.size:=(by omega);have qq:wr.heap.size<wn.heap.size:=(by omega);have hyn3:Wa.heap.size<wn.heap.size:=(by omega);have hmn:=Lib.hid (ej.keep1 ((dI.block (w.heap.size+1) (by simp;omega)).trans (heap_alloc_old _ _ yf)));have jZ:=Lib.hid ay;clear ay))|(at_lookup;go_loud (refine Jel rfl (.tmp 42) (.tmp 44) 205 rfl Tryz.underlying9 Tryz.underlying205 (Jcf (0,⟨#[]⟩)) (Jfz _) (w.heap.size+1) n f q.name rfl (hmn.out.keep1 (heap_setCell_other _ _ _ _ (by show w.heap.size+1≠Wa.heap.size;omega))) rfl dw ?_;rw [jy.out q.name,mK.out];unfold Jcf)))
      go_roundw
      case rel=>
       have qr:=Jy (Js (o:= .cells #[.string q.name,.int .i64 q.delay,.int .i64 q.first.kind,.int .i32 q.first.n,.string q.first.name,.slice B1 q.first.sub.length n1,.int .i64 q.e.kind,.int .i32 q.e.n,.string q.e.name,.slice B2 q.e.sub.length n2] 75) ae.out) dI;have cP:=qr.stored k (.slice An (Kx q.e).length cn);refine⟨k+1,xs.set k (.slice An (Kx q.e).length cn),by omega,by go_num,Lib.hid (Js cP.1),Lib.hid ?_,Lib.hid (Qn (Qn (Qn (Qn bB.out (World.grownBy_alloc wr _ _)) (Jat dI)) cP.2) (World.grownBy_alloc _ _ _))⟩
       have fb:Off (Wa.heap.size+1) none ((wn.setCell ⟨Wa.heap.size,k,none⟩ (.slice An (Kx q.e).length cn)).alloc (.cells #[.int .i64 ck,.string cs] 81)) (fun V=>Qf V (Z1 L q) An cn):=by
        rw [HNQ.out];exact((Qf.off_own jZ.out).less (base:=Wa.heap.size+1) (by simp;omega)).grow (fun b ac aq _=>(heap_alloc_old _ _ (by simpa using aq)).trans (heap_setCell_other _ _ _ _ (by show b≠Wa.heap.size;omega))) (by simp) (.inl rfl)
       have:=vE.out.step (w':=(wn.setCell ⟨Wa.heap.size,k,none⟩ (.slice An (Kx q.e).length cn)).alloc (.cells #[.int .i64 ck,.string cs] 81)) (fun b ac aq=>(heap_alloc_old _ _ (by simp;omega)).trans ((heap_setCell_other _ _ _ _ (by show b≠Wa.heap.size;omega)).trans ((dI.block b (by simp;omega)).trans (heap_alloc_old _ _ aq)))) (by simp;omega) HX.out (by rw [HXL.out];exact am) fb;rw [HNQ.out] at this;exact this
      case measure=>simp [intOf];omega
     ·have t1:(ck != 0)=true:=by simpa using ob
      have hnq:Z1 L q=Kx q.e ++ [cs]:=by unfold Z1;rw [mK.out,if_neg ob]
      have HNQ:=Lib.hid hnq;clear hnq ob;have jV:=Jmt q.e
      go_wp2_with (first|(go_at_call 136;go_loud (refine(fP _ Jb).mono ?_;rintro r wn ⟨⟨vn,rfl,ay⟩,dI⟩;obtain⟨An,cn,rfl,eR,eu⟩:=Jv ay;have qJ:=Jg dI;have lF:=Jf dI;have qp:wr.heap.size+1<=wn.heap.size:=(by have:=dI.size;simpa using this);have xa:w.heap.size<wn.heap.size:=(by omega);have hyn1:w.heap.size+1<wn.heap.size:=(by omega);have qq:wr.heap.size<wn.heap.size:=(by omega);have hyn3:Wa.heap.size<wn.heap.size:=(by omega);have hmn:=Lib.hid (ej.keep1 ((dI.block (w.heap.size+1) (by simp;omega)).trans (heap_alloc_old _ _ yf)));have jZ:=Lib.hid ay;clear ay))|(at_lookup;go_loud (refine Jel rfl (.tmp 42) (.tmp 44) 205 rfl Tryz.underlying9 Tryz.underlying205 (Jcf (0,⟨#[]⟩)) (Jfz _) (w.heap.size+1) n f q.name rfl (hmn.out.keep1 (heap_setCell_other _ _ _ _ (by show w.heap.size+1≠Wa.heap.size;omega))) rfl dw ?_;rw [jy.out q.name,mK.out];unfold Jcf)))
      have jI:wn.ownsRow (wr.heap.size+1) 9 1 (.slice An (Kx q.e).length cn) (Kx q.e).length ((Kx q.e).map .string):=by have:=jZ.out;simpa using this
      have hownX:((wn.setCell ⟨Wa.heap.size,k,none⟩ (.slice An (Kx q.e).length cn)).alloc (.cells #[.int .i64 ck,.string cs] 81)).ownsRow (wr.heap.size+1) 9 1 (.slice An (Kx q.e).length cn) (Kx q.e).length ((Kx q.e).map .string):=Js (Kn jI (fun b hb=>by have:=(jI.lt b hb).1;omega) _ _);have wk:wn.cell? ⟨Wa.heap.size,k,none⟩=some (.slice none 0 0):=Ja dI (Ja (Jc (Below.refl _ _) _) e0);have wkf:wn.frozen? ⟨Wa.heap.size,k,none⟩=false:=(dI.frozen (p:=⟨Wa.heap.size,k,none⟩) (show Wa.heap.size<_ by simp;omega)).trans (((Jc (Below.refl _ _) _).frozen (p:=⟨Wa.heap.size,k,none⟩) hGlt).trans f0);have xk:((wn.setCell ⟨Wa.heap.size,k,none⟩ (.slice An (Kx q.e).length cn)).alloc (.cells #[.int .i64 ck,.string cs] 81)).cell? ⟨Wa.heap.size,k,none⟩=some (.slice An (Kx q.e).length cn):=by go_simp
      have xf:((wn.setCell ⟨Wa.heap.size,k,none⟩ (.slice An (Kx q.e).length cn)).alloc (.cells #[.int .i64 ck,.string cs] 81)).frozen? ⟨Wa.heap.size,k,none⟩=false:=by go_simp
      have XK:=Lib.hid xk;have XF:=Lib.hid xf;clear xk xf;have hrz:wr.heap.size+1<=wn.heap.size:=qp
      go_region_law (first
       | (refine Jg1 rfl (.tmp 54) (.tmp 57) 119 rfl (wr.heap.size+1) 9 _ 1 16 Tryz.underlying119 Zq rfl (by omega) (.slice An (Kx q.e).length cn) (Kx q.e).length ((Kx q.e).map .string) (some ⟨wn.heap.size+1,0,none⟩) 1 1 [.string cs] rfl (Js (Kp hownX)) rfl ⟨rfl,fun _=>⟨_,_,rfl,fun j u hj=>by rw [Nat.zero_add];exact(Qo (by simp)).trans (by simpa using hj)⟩⟩ (by simp [Value.oneCell']) (by omega) (by omega) (by simp;omega) ?_;intro v9 w9 dL nh;go_loud (obtain⟨A9,c9,rfl,hc91,hc92⟩:=Jv dL;have k9:w9.cell? ⟨Wa.heap.size,k,none⟩=some (.slice An (Kx q.e).length cn):=((nh.cell (p:=⟨Wa.heap.size,k,none⟩) (show Wa.heap.size<wr.heap.size+1 by omega)).trans (Ja (Jc (Below.refl _ _) _) (Zw XK.out)));have k9f:w9.frozen? ⟨Wa.heap.size,k,none⟩=false:=((nh.frozen (p:=⟨Wa.heap.size,k,none⟩) (show Wa.heap.size<wr.heap.size+1 by omega)).trans (((Jc (Jh (Below.refl _ _)) _).frozen (p:=⟨Wa.heap.size,k,none⟩) (show Wa.heap.size<_ by simp;omega)).trans XF.out));have HO9:=Lib.hid dL;have HB9:=Lib.hid nh;clear dL nh)))
      all_goals
       go_wp2_with fail
       go_roundw
       case rel=>
        have qr:=Jy (Js (o:= .cells #[.string q.name,.int .i64 q.delay,.int .i64 q.first.kind,.int .i32 q.first.n,.string q.first.name,.slice B1 q.first.sub.length n1,.int .i64 q.e.kind,.int .i32 q.e.n,.string q.e.name,.slice B2 q.e.sub.length n2] 75) ae.out) dI;have cP:=qr.stored k (.slice An (Kx q.e).length cn);have hz9:=HB9.out.size;have gH:wn.heap.size<=w9.heap.size:=by refine Nat.le_trans ?_ hz9;show wn.heap.size<=(World.alloc _ _).heap.size;simp;omega
        have hX:∀b,b<wr.heap.size->w9.heap[b]?=(wn.setCell ⟨Wa.heap.size,k,none⟩ (.slice An (Kx q.e).length cn)).heap[b]?:=fun b hb=>
         (HB9.out.block b (by omega)).trans ((heap_alloc_old _ _ (by simp;omega)).trans (heap_alloc_old _ _ (by simp;omega)))
        have vR:=(Jt6 cP.1 (hX _ hGlt)).stored k (.slice A9 ((Kx q.e).length+1) c9);rw [List.set_set] at vR;have rG:wr.grownBy w9 (some Wa.heap.size):=⟨HB9.out.os.trans dI.os,HB9.out.tape.trans dI.tape,HB9.out.output.trans dI.output,by omega,fun b hb aS=>(hX b hb).trans ((heap_setCell_other _ _ _ _ (by show b≠Wa.heap.size;intro h;exact aS (by rw [h]))).trans ((dI.block b (by simp;omega)).trans (heap_alloc_old _ _ hb)))⟩;have hgf:=Qn rG vR.2;refine⟨k+1,xs.set k (.slice A9 ((Kx q.e).length+1) c9),by omega,by go_num,Lib.hid vR.1,Lib.hid ?_,Lib.hid (Qn bB.out hgf)⟩
        have fb:Off (Wa.heap.size+1) none (w9.setCell ⟨Wa.heap.size,k,none⟩ (.slice A9 ((Kx q.e).length+1) c9)) (fun V=>Qf V (Z1 L q) A9 c9):=by
         have ho:=HO9.out;rw [HNQ.out];have jm:w9.ownsRow (wr.heap.size+1) 9 1 (.slice A9 (Kx q.e ++ [cs]).length c9) (Kx q.e ++ [cs]).length ((Kx q.e ++ [cs]).map .string):=by rw [List.map_append,List.length_append];exact ho
         exact((Qf.off_own jm).grow (fun b ac aq _=>heap_setCell_other _ _ _ _ (by show b≠Wa.heap.size;omega)) (by simp) (.inl rfl)).less (by omega)
        have:=vE.out.step (fun b ac aq=>hgf.block b aq (by intro h;injection h with h;omega)) hgf.size HX.out (by rw [HXL.out];exact am) fb;rw [show(Z1 L q).length=(Kx q.e).length+1 by rw [HNQ.out];simp] at this;exact this
       case measure=>simp [intOf];omega
    ·obtain rfl:k=p.eqs.length:=by omega
     have HB:=Lib.hid dh;clear dh
     go_wp2_with fail
     go_ret;exact⟨⟨Wa.heap.size,xs,rfl,by omega,ae.out,vE.out⟩,HB.out⟩
end Go.Proofs.YtdgjplldlfeolaaGreatDoor
namespace Go.Proofs.YtdgjplldlfeolaaGreatDoor
open Go.RowKit
def Yd (R:List ByteArray) (nd:Qe->List ByteArray):Nat->List Qe->Int×Int
 | _,[]=>(-1,-1)
 | k,q :: r=>if Ka R q.name=true then Yd R nd (k+1) r else((k:Int),if (nd q).all (Ka R)=true then(k:Int) else(Yd R nd (k+1) r).2)
def Jbi (f:ByteArray->Option Int) (nd:Qe->List ByteArray):Nat->List Qe->Int->Int×Int
 | _,[],m=>(m,-1)
 | k,q :: r,m=>if f q.name=some (k:Int) then(if Jb2 f (nd q)=true then(if m<0 then(k:Int) else m,(k:Int)) else Jbi f nd (k+1) r (if m<0 then(k:Int) else m)) else Jbi f nd (k+1) r m
theorem Jmd {R:List ByteArray} {f:ByteArray->Option Int} {nr np:Qe->List ByteArray} : ∀(l:List Qe) (k:Nat) (m:Int),(m = -1\/0<=m)->
  (∀(i:Nat) (q:Qe),l[i]?=some q->(f q.name=some ((k+i:Nat):Int)<->Ka R q.name=false))->(∀q∈l,Ka R q.name=false->Jb2 f (np q)=(nr q).all (Ka R))->
  (Jbi f np k l m).2=(Yd R nr k l).2/\((Yd R nr k l).2<0->(Jbi f np k l m).1=if m<0 then(Yd R nr k l).1 else m)
 | [],k,m,eU,_,_=>by
  refine⟨rfl,fun _=>?_⟩;simp only [Jbi,Yd]
  by_cases hm:m<0
  ·rw [if_pos hm];omega
  ·rw [if_neg hm]
 | q :: r,k,m,eU,h1,h2=>by
  have hq:=h1 0 q rfl;rw [Nat.add_zero] at hq
  have h1':∀(i:Nat) (q:Qe),r[i]?=some q->(f q.name=some ((k+1+i:Nat):Int)<->Ka R q.name=false):=fun i x hx=>by
   have:=h1 (i+1) x (by simpa using hx)
   rwa [show k+(i+1)=k+1+i from by omega] at this
  have tA:∀x∈r,Ka R x.name=false->Jb2 f (np x)=(nr x).all (Ka R):=fun x hx=>h2 x (by simp [hx])
  cases hb:Ka R q.name
  ·have hf:=hq.2 hb;have hr:=h2 q (by simp) hb;rw [Jbi,Yd,if_pos hf,hb,if_neg (show ¬(false=true) by simp),hr]
   cases ha:(nr q).all (Ka R)
   ·rw [if_neg (show ¬(false=true) by simp),if_neg (show ¬(false=true) by simp)];obtain⟨e1,e2⟩:=Jmd r (k+1) (if m<0 then(k:Int) else m) (by split <;> omega) h1' tA;refine⟨e1,fun am=>?_⟩;rw [e2 am]
    by_cases hm:m<0
    ·simp only [if_pos hm];rw [if_neg (by omega)]
    ·simp only [if_neg hm]
   ·rw [if_pos rfl,if_pos rfl];exact⟨rfl,fun am=>absurd am (by show ¬((k:Int)<0);omega)⟩
  ·have hf:¬f q.name=some (k:Int):=fun h=>by have:=hq.1 h;rw [hb] at this;simp at this
   rw [Jbi,Yd,if_neg hf,hb,if_pos rfl];exact Jmd r (k+1) m eU h1' tA
def Za (eqs:List Qe) (j:Int):ByteArray:=match eqs[j.toNat]? with|some q=>q.name|none=>⟨#[]⟩
def Jfk (nd:Qe->List ByteArray) (eqs:List Qe) (left:Nat):Nat->List ByteArray->List Int->List Int×(Int×Int×Int)
 | 0,_,out=>(out,(0,0,0))
 | t+1,R,out=>if out.length<left then(if (Yd R nd 0 eqs).2<0 then([],(3,(Yd R nd 0 eqs).1,22)) else Jfk nd eqs left t (R ++ [Za eqs (Yd R nd 0 eqs).2]) (out ++ [(Yd R nd 0 eqs).2])) else(out,(0,0,0))
def Jj9 (nd:Qe->List ByteArray) (eqs:List Qe):Nat->(ByteArray->Option Int)->Nat->List Int->List Int×(Int×Int×Int)
 | 0,_,_,out=>(out,(0,0,0))
 | t+1,f,c,out=>if 0<c then(if (Jbi f nd 0 eqs (-1)).2<0 then([],(3,(Jbi f nd 0 eqs (-1)).1,22)) else Jj9 nd eqs t (Jck f (Za eqs (Jbi f nd 0 eqs (-1)).2)) (c-1) (out ++ [(Jbi f nd 0 eqs (-1)).2])) else(out,(0,0,0))
theorem Jgw {s t:ByteArray} : (s.toList == t.toList)=decide (s.data=t.data):=by
 rw [Bool.eq_iff_iff,Zf];simp only [decide_eq_true_eq];exact⟨fun h=>by rw [h],fun h=>by ext1;exact h⟩
theorem Jqx {f:ByteArray->Option Int} {R:List ByteArray} {s s0:ByteArray} {i:Int} (h:f s=some i<->Ka R s=false):Jck f s0 s=some i<->Ka (R ++ [s0]) s=false:=by
 rw [Jcx,Jgw];unfold Jck
 by_cases hs:s.data=s0.data
 ·rw [if_pos hs];simp [hs]
 ·rw [if_neg hs,h];have:decide (s0.data=s.data)=false:=by simpa using fun h=>hs h.symm
  rw [this,Bool.or_false]
theorem Jqd {f:ByteArray->Option Int} {R:List ByteArray} {s s0:ByteArray} (h:(f s).isSome=!Ka R s):(Jck f s0 s).isSome=!Ka (R ++ [s0]) s:=by
 rw [Jcx,Jgw];unfold Jck
 by_cases hs:s.data=s0.data
 ·rw [if_pos hs];simp [hs]
 ·rw [if_neg hs,h];have:decide (s0.data=s.data)=false:=by simpa using fun h=>hs h.symm
  rw [this,Bool.or_false]
theorem Jnn {f:ByteArray->Option Int} {R:List ByteArray} : ∀ {l:List ByteArray},(∀s∈l,(f s).isSome=!Ka R s)->Jb2 f l=l.all (Ka R)
 | [],_=>rfl
 | s :: l,h=>by
  have h1:=h s (by simp);have h2:=Jnn (l:=l) fun x hx=>h x (by simp [hx]);unfold Jb2 at h2 ⊢;rw [List.all_cons,List.all_cons,h2,h1,Bool.not_not]
theorem Jue {nr np:Qe->List ByteArray} {eqs:List Qe} {left:Nat} (bW:∀q∈eqs,∀R,(np q).all (Ka R)=(nr q).all (Ka R)):∀(t:Nat) (f:ByteArray->Option Int) (R:List ByteArray) (c:Nat) (out:List Int),
  out.length+c=left->(∀(i:Nat) (q:Qe),eqs[i]?=some q->(f q.name=some (i:Int)<->Ka R q.name=false))->(∀q∈eqs,∀s∈np q,(f s).isSome=!Ka R s)->
  Jj9 np eqs t f c out=Jfk nr eqs left t R out
 | 0,f,R,c,out,_,_,_=>rfl
 | t+1,f,R,c,out,hc,hw,hi=>by
  obtain⟨e1,e2⟩:=Jmd (R:=R) (f:=f) (nr:=nr) (np:=np) eqs 0 (-1) (.inl rfl) (fun i q hq=>by rw [Nat.zero_add];exact hw i q hq) (fun q hq _=>(Jnn (hi q hq)).trans (bW q hq R));rw [Jj9,Jfk,e1]
  by_cases h0:0<c
  ·rw [if_pos h0,if_pos (show out.length<left by omega)]
   by_cases hn:(Yd R nr 0 eqs).2<0
   ·rw [if_pos hn,if_pos hn,e2 hn,if_pos (by omega)]
   ·rw [if_neg hn,if_neg hn];exact Jue bW t _ _ (c-1) _ (by simp;omega) (fun i q hq=>Jqx (hw i q hq)) (fun q hq s hs=>Jqd (hi q hq s hs))
  ·rw [if_neg h0,if_neg (show ¬out.length<left by omega)]
end Go.Proofs.YtdgjplldlfeolaaGreatDoor
namespace Go.Proofs.YtdgjplldlfeolaaGreatDoor
open Go.RowKit Go.Sort Go.Maps Go.ChangeMaps Go.WideMaps
structure Jld (R:Value->Option (DataW Unit×List MemPlace)) {V:Type} (okv:V->Prop) (vv:V->Value) (vl:V->Lit):Prop where
 read:∀v,okv v->R (vv v)=some (.lit (vl v),[])
 back:∀x v ps,okv v->R x=some (.lit (vl v),ps)->x=vv v
def Qd (P:Program) (k:TypeId) (R:Value->Option (DataW Unit×List MemPlace)) {K V:Type} (ok:K->Prop) (kl:K->Lit) (okv:V->Prop) (vl:V->Lit) (z:V) (w:World) (b n:Nat) (f:K->Option V) (c:Nat):Prop:=
 ∃D:DataW Unit,w.ownsMap P k R b n D/\Maps.Tidy D/\Maps.size D=c/\
  ∀x,ok x->(Maps.has D (kl x)=(f x).isSome/\D.atKey (kl x) (.lit (vl z)) = .lit (vl ((f x).getD z)))/\okv ((f x).getD z)
section
variable {P:Program} {k e:TypeId} {R:Value->Option (DataW Unit×List MemPlace)} {K V:Type} {ok:K->Prop} {kv:K->Value} {kl:K->Lit} {okv:V->Prop} {vv:V->Value} {vl:V->Lit} {z:V} {w w':World} {b n c:Nat} {f:K->Option V}
theorem Qd.made (hz:okv z) (w:World):Qd P k R ok kl okv vl z (w.alloc (.map #[] 0)) w.heap.size 0 (fun _=>none) 0:=
 ⟨.map [],World.ownsMap_made w P k _,Maps.tidy_empty,rfl,fun x _=>⟨⟨rfl,rfl⟩,hz⟩⟩
theorem Qd.lt (h:Qd P k R ok kl okv vl z w b n f c):b<w.heap.size:=by
 obtain⟨D,h1,_⟩:=h;exact h1.lt
theorem Qd.keep1 (h:Qd P k R ok kl okv vl z w b n f c) (hb:w'.heap[b]?=w.heap[b]?):Qd P k R ok kl okv vl z w' b n f c:=by
 obtain⟨D,⟨es,clock,hh,F,hs,hD⟩,h2⟩:=h;exact⟨D,⟨es,clock,hb.trans hh,F,hs,hD⟩,h2⟩
theorem Qd.bel (h:Qd P k R ok kl okv vl z w b n f c) (hb:Below w.heap.size w w'):Qd P k R ok kl okv vl z w' b n f c:=h.keep1 (hb.block b h.lt)
theorem Qd.drew (h:Qd P k R ok kl okv vl z w b n f c):Qd P k R ok kl okv vl z w.drew b n f c:=h.bel (Jh (Below.refl _ _))
theorem Qd.more (h:Qd P k R ok kl okv vl z w b n f c) {m:Nat} (hm:n<=m):Qd P k R ok kl okv vl z w b m f c:=by
 obtain⟨D,h1,h2⟩:=h;exact⟨D,h1.mono hm,h2⟩
theorem Qd.same (h:Qd P k R ok kl okv vl z w b n f c) {g:K->Option V} (hg:∀x,ok x->g x=f x):Qd P k R ok kl okv vl z w b n g c:=by
 obtain⟨D,h1,h2,h3,h4⟩:=h;exact⟨D,h1,h2,h3,fun x hx=>by rw [hg x hx];exact h4 x hx⟩
theorem Ji1 (ks:Jer P k ok kv kl) (vs:Jld R okv vv vl) {t:TypeId} (ht:P.underlying t=some (.map k e)) (hz:(zeroValue e).run P w = .ok (vv z) w) (jB:okv z)
  {s:K} {x:Value} (hx:x=kv s) (ae:Qd P k R ok kl okv vl z w b n f c) (hs:ok s) {r:V} (hr:(f s).getD z=r):(Instr.lookup t (.map (some b)) x false).run P w = .ok (vv r) w:=by
 subst hx;obtain⟨D,h1,h2,_,h3⟩:=ae;obtain⟨v,ps,eH,hv⟩:=h1.lookup ks.keyed ht hz (vs.read z jB) (ks.read s hs);rw [(h3 s hs).1.2] at hv;rw [eH,vs.back v _ ps (h3 s hs).2 hv,hr]
theorem Qd.laid (ks:Jer P k ok kv kl) {D:DataW Unit} {s:K} (hs:ok s) {v:V} (hv:okv v) {m:Nat} (h2:Maps.Tidy D)
  (h3:Maps.size D=c) (h4:∀x,ok x->(Maps.has D (kl x)=(f x).isSome/\D.atKey (kl x) (.lit (vl z)) = .lit (vl ((f x).getD z)))/\okv ((f x).getD z))
  {f':K->Option V} (db:f' s=some v) (gO:∀y,ok y->y≠s->f' y=f y) (h5:w'.ownsMap P k R b m (D.put (kl s) (.lit (vl v)))):Qd P k R ok kl okv vl z w' b m f' (if (f s).isSome then c else c+1):=by
 have fR:WideAt.IsKeyLit (kl s):=ks.keyed.key (ks.read s hs);refine⟨_,h5,h2.put fR _,by rw [Maps.size_put h2,(h4 s hs).1.1,h3],fun y hy=>?_⟩
 by_cases oJ:y=s
 ·subst oJ;rw [has_put_same h2.isMap fR,atKey_put_same h2.isMap fR,db];exact⟨⟨rfl,rfl⟩,hv⟩
 ·have aS:kl y≠kl s:=fun h=>oJ (ks.inj y s hy hs h);rw [has_put_other aS,atKey_put_other aS,(h4 y hy).1.1,(h4 y hy).1.2,gO y hy oJ];exact⟨⟨rfl,rfl⟩,(h4 y hy).2⟩
theorem Qd.entry (ks:Jer P k ok kv kl) (kd:KeyLaw P k) (vs:Jld R okv vv vl) {t:TypeId} (ht:P.underlying t=some (.map k e)) (hz:∀u:World,(zeroValue e).run P u = .ok (vv z) u)
  {s:K} (ae:Qd P k R ok kl okv vl z w b n f c) (hs:ok s) (hn:n<1000000000) :
  ∃v0 st w1,(Instr.mapEntry t (.map (some b)) (kv s)).run P w = .ok (.tuple #[v0,st]) w1/\w.grownBy w1 (some b)/\w1.heap.size=w.heap.size/\
   ∀w2:World,w2.heap[b]?=w1.heap[b]?->∀v,okv v->∀f':K->Option V,f' s=some v->(∀y,ok y->y≠s->f' y=f y)->
    ∃w3,(Instr.entryStore t (.map (some b)) st (vv v)).run P w2 = .ok () w3/\Qd P k R ok kl okv vl z w3 b (n+1) f' (if (f s).isSome then c else c+1)/\w2.grownBy w3 (some b)/\w3.heap.size=w2.heap.size:=by
 obtain⟨D,h1,h2,h3,h4⟩:=ae;obtain⟨es,clock,hb,F,cE,hD⟩:=id h1;obtain⟨v0,st,es1,clock1,eH,_,cP⟩:=WideElems.entry_then_store kd ht hz hb F (ks.read s hs);refine⟨v0,goInt st,_,eH,⟨rfl,rfl,rfl,by simp [setBlock],fun i _ hi=>heap_setBlock_other hb _ (fun e=>hi (by rw [e]))⟩,by simp [setBlock],fun w2 sh v hv f' db gO=>?_⟩;rw [heap_setBlock_same hb] at sh;obtain⟨es',clock',fF,fa⟩:=cP w2 (vv v) sh;obtain⟨w',hu,h5,h6⟩:=h1.update ks.keyed ht (by unfold maxLen;omega) (ks.read s hs) (vs.read v hv);rw [fa] at hu;injection hu with _ hu;subst hu;refine⟨_,fF,(Qd.laid ks hs hv h2 h3 h4 db gO h5).keep1 ?_,⟨rfl,rfl,rfl,by simp [setBlock],fun i _ hi=>heap_setBlock_other sh _ (fun e=>hi (by rw [e]))⟩,by simp [setBlock]⟩;rw [heap_setBlock_same sh,heap_setBlock_same hb]
end
theorem Jvi {P:Program} {e:TypeId} {q:IntKind} (he:P.underlying e=some (.int q)):Jld (plainElem P e) (fun i:Int=>(Lit.int q i).wf=true) (fun i=> .int q i) (fun i=> .int q i):=
 ⟨fun v hv=>plainElem_int he hv,fun x v ps hv h=>by
  obtain⟨a,rfl,h2,_⟩:=plainElem_int_inv he h;simp only [Prod.mk.injEq,DataW.lit.injEq,Lit.int.injEq,true_and] at h2;rw [h2.1]⟩
noncomputable def clkR (x:Value):Option (DataW Unit×List MemPlace):=by
 classical
 exact if h:∃c:Int×ByteArray,okC c/\x=kvC c then some (.lit (klC h.choose),[]) else none
theorem Jgn:Jld clkR okC kvC klC:=
 ⟨fun v hv=>by
  have h:∃c:Int×ByteArray,okC c/\kvC v=kvC c:=⟨v,hv,rfl⟩;unfold clkR;rw [dif_pos h];have h2:=h.choose_spec;generalize h.choose=c at h2 ⊢;obtain⟨_,h2⟩:=h2;unfold kvC at h2;injection h2 with h2;injection h2 with h2;injection h2 with h3 h4;injection h3 with _ h3;injection h4 with h4;injection h4 with h4;have:v=c:=Prod.ext h3 h4;rw [this],fun x v ps hv hx=>by
  unfold clkR at hx
  split at hx
  ·rename_i h;have h2:=h.choose_spec;simp at hx;rw [h2.2,Jrm h2.1 hv hx.1]
  ·cases hx⟩
end Go.Proofs.YtdgjplldlfeolaaGreatDoor
namespace Go.Proofs.YtdgjplldlfeolaaGreatDoor
open Go.RowKit Go.Sort Go.Maps Go.ChangeMaps Go.WideMaps Go.WideElems
theorem Jv6 {P:Program} {k:TypeId} (K:KeyLaw P k) {x:Value} {lx:Lit} (hx:keyOf P k x=some lx) (es:List MapEntry) (hk:∀e∈es,∃l,keyOf P k e.key=some l) (hn:(es.map (·.key)).Nodup) :
  (∀w:World,(Instr.findKey k x es).run P w = .ok none w)\/∃j e,(∀w:World,(Instr.findKey k x es).run P w = .ok (some (j,e.val)) w)/\es[j]?=some e/\e.key=x:=by
 by_cases h:∃e∈es,e.key=x
 ·obtain⟨e,he,xn⟩:=h;obtain⟨j,hj⟩:=List.getElem?_of_mem he;refine .inr ⟨j,e,fun w=>?_,hj,xn⟩
  rcases K.find w hx es hk with ⟨_,h2⟩|⟨j',e',h1,h2,h3⟩
  ·exact absurd xn (h2 e he)
  ·have e1:(es.map (·.key))[j]?=some x:=by rw [List.getElem?_map,hj];simp [xn]
   have e2:(es.map (·.key))[j']?=some x:=by rw [List.getElem?_map,h2];simp [h3]
   obtain⟨l1,g1⟩:=List.getElem?_eq_some_iff.1 e1;obtain⟨l2,g2⟩:=List.getElem?_eq_some_iff.1 e2;have:j=j':=(List.getElem_inj hn).1 (g1.trans g2.symm);subst this;rw [hj] at h2;injection h2 with h2;rw [h1,h2]
 ·refine .inl fun w=>?_
  rcases K.find w hx es hk with ⟨h1,_⟩|⟨j',e',_,h2,h3⟩
  ·exact h1
  ·exact absurd ⟨e',List.mem_of_getElem? h2,h3⟩ h
theorem Jt9 {P:Program} {t k e:TypeId} {R:Value->Option (DataW Unit×List MemPlace)} {b:Nat} {es:Array MapEntry} {clock:Nat} (K:KeyLaw P k) (ht:P.underlying t=some (.map k e)) {z:Value} (hz:∀u:World,(zeroValue e).run P u = .ok z u) (F:Fit P k R es clock)
  {key:Value} {kl:Lit} (rg:keyOf P k key=some kl):∃(v0:Value) (st:Nat) (es1:Array MapEntry) (clock1:Nat),∀W:World,W.heap[b]?=some (.map es clock)->
   (Instr.mapEntry t (.map (some b)) key).run P W = .ok (.tuple #[v0,goInt st]) (setBlock W b (.map es1 clock1)):=by
 rcases Jv6 K rg es.toList F.keys F.stamped.2.2 with h1|⟨j,e0,h1,h2,h3⟩
 ·exact⟨z,clock,es.push ⟨key,z,clock⟩,clock+1,fun W hb=>by
   simp [Instr.mapEntry,run_underlying ht,MapKept.run_getObj_map hb,K.check W false rg,h1,hz,MapKept.run_setObj_map _ hb,Result.andThen,setBlock]⟩
 ·have hj:es[j]?=some e0:=by simpa using h2
  have bF:es.modify j (fun e=>{e with key:=key})=es:=by
   apply Array.ext';rw [Array.toList_modify,modify_eq_set _ _ _ _ h2];have:({e0 with key:=key} : MapEntry)=e0:=by rw [<-h3]
   rw [this];exact set_self _ _ _ h2
  exact⟨e0.val,e0.born,es,clock,fun W hb=>by
   simp [Instr.mapEntry,run_underlying ht,MapKept.run_getObj_map hb,K.check W false rg,h1,hj,h3,K.stays W rg,bF,MapKept.run_setObj_map _ hb,Result.andThen,setBlock]⟩
section
variable {P:Program} {k e:TypeId} {R:Value->Option (DataW Unit×List MemPlace)} {K V:Type} {ok:K->Prop} {kv:K->Value} {kl:K->Lit} {okv:V->Prop} {vv:V->Value} {vl:V->Lit} {z:V} {w:World} {b n c:Nat} {f:K->Option V}
theorem Qd.steps (ks:Jer P k ok kv kl) (kd:KeyLaw P k) (vs:Jld R okv vv vl) {t:TypeId} (ht:P.underlying t=some (.map k e)) (hz:∀u:World,(zeroValue e).run P u = .ok (vv z) u)
  {s:K} (ae:Qd P k R ok kl okv vl z w b n f c) (hs:ok s) (hn:n<1000000000) {v:V} (hv:okv v) :
  ∃v0 st o0 o1 o2,w.heap[b]?=some o0/\(∀W:World,W.heap[b]?=some o0->(Instr.mapEntry t (.map (some b)) (kv s)).run P W = .ok (.tuple #[v0,.int .i64 st]) (setBlock W b o1))/\
   (∀W:World,W.heap[b]?=some o1->(Instr.entryStore t (.map (some b)) (.int .i64 st) (vv v)).run P W = .ok () (setBlock W b o2))/\
   (∀W:World,W.heap[b]?=some o0->(Instr.mapUpdate t (.map (some b)) (kv s) (vv v)).run P W = .ok () (setBlock W b o2))/\
   ∀W:World,W.heap[b]?=some o2->∀f':K->Option V,f' s=some v->(∀y,ok y->y≠s->f' y=f y)->Qd P k R ok kl okv vl z W b (n+1) f' (if (f s).isSome then c else c+1):=by
 obtain⟨D,h1,h2,h3,h4⟩:=ae;obtain⟨es,clock,hb,F,cE,hD⟩:=id h1;obtain⟨v0,st,es1,clock1,eH⟩:=Jt9 (b:=b) kd ht hz F (ks.read s hs);obtain⟨v0',st',es1',clock1',si,_,cP⟩:=WideElems.entry_then_store kd ht hz hb F (ks.read s hs);rw [eH w hb] at si;injection si with e1 e2
 have e3:(.map es1 clock1:Obj) = .map es1' clock1':=by
  have h5:=heap_setBlock_same hb (.map es1 clock1);rw [e2,heap_setBlock_same hb] at h5;injection h5 with h5;exact h5.symm
 injection e1 with e1;injection e1 with e1;injection e1 with e4 e5;injection e5 with e5;rw [<-e5,<-e3] at cP;obtain⟨w',hu,h5,h6⟩:=h1.update ks.keyed ht (by unfold maxLen;omega) (ks.read s hs) (vs.read v hv);obtain⟨es2,clock2,_,fa⟩:=cP (setBlock w b (.map es1 clock1)) (vv v) (heap_setBlock_same hb _)
 have oK:∀W:World,W.heap[b]?=some (.map es1 clock1)->(Instr.entryStore t (.map (some b)) (.int .i64 st) (vv v)).run P W = .ok () (setBlock W b (.map es2 clock2)):=fun W hW=>by
  obtain⟨es3,clock3,hr3,sj⟩:=cP W (vv v) hW;rw [fa] at sj;injection sj with _ sj;have h7:=heap_setBlock_same hb (.map es2 clock2);rw [sj,heap_setBlock_same hb] at h7;injection h7 with h7;rw [<-h7];exact hr3
 refine⟨v0,st,.map es clock,.map es1 clock1,.map es2 clock2,hb,eH,oK,fun W hW=>?_,fun W hW f' db gO=>?_⟩
 ·obtain⟨v8,st8,es8,clock8,sk,_,xu⟩:=WideElems.entry_then_store kd ht hz hW F (ks.read s hs);rw [eH W hW] at sk;injection sk with a1 a2
  have a3:(.map es1 clock1:Obj) = .map es8 clock8:=by
   have h5:=heap_setBlock_same hW (.map es1 clock1);rw [a2,heap_setBlock_same hW] at h5;injection h5 with h5;exact h5.symm
  injection a1 with a1;injection a1 with a1;injection a1 with a4 a5;injection a5 with a5;rw [<-a5,<-a3] at xu;obtain⟨es9,clock9,b1,b2⟩:=xu (setBlock W b (.map es1 clock1)) (vv v) (heap_setBlock_same hW _);have b3:=oK (setBlock W b (.map es1 clock1)) (heap_setBlock_same hW _);rw [show(goInt st:Value) = .int .i64 st from rfl] at b1;rw [b1] at b3;injection b3 with _ b3;have b4:=heap_setBlock_same (heap_setBlock_same hW (.map es1 clock1)) (.map es9 clock9);rw [b3,heap_setBlock_same (heap_setBlock_same hW (.map es1 clock1))] at b4;injection b4 with b4;rw [b2,b4]
 ·rw [fa] at hu;injection hu with _ hu;subst hu;exact(Qd.laid ks hs hv h2 h3 h4 db gO h5).keep1 (by rw [hW,heap_setBlock_same hb])
end
end Go.Proofs.YtdgjplldlfeolaaGreatDoor
namespace Go.Proofs.YtdgjplldlfeolaaGreatDoor
open Go.RowKit Go.Sort
structure J6 (S:Nat->Prop) (W W':World):Prop where
 os:W'.os=W.os
 tape:W'.tape=W.tape
 output:W'.output=W.output
 size:W.heap.size<=W'.heap.size
 block:∀k,k<W.heap.size->¬S k->W'.heap[k]?=W.heap[k]?
theorem J6.refl {S:Nat->Prop} (W:World):J6 S W W:=⟨rfl,rfl,rfl,Nat.le_refl _,fun _ _ _=>rfl⟩
theorem J6.bel {S:Nat->Prop} {W W':World} (h:Below W.heap.size W W'):J6 S W W':=⟨h.os,h.tape,h.output,h.size,fun k hk _=>h.block k hk⟩
theorem J6.grown {S:Nat->Prop} {W W':World} {r:Option Nat} (h:W.grownBy W' r) (hr:∀k,r=some k->S k):J6 S W W':=
 ⟨h.os,h.tape,h.output,h.size,fun k hk hs=>h.block k hk fun he=>hs (hr k he.symm)⟩
theorem J6.trans {S T:Nat->Prop} {a b c:World} (h1:J6 S a b) (h2:J6 T b c) (hT:∀k,k<a.heap.size->T k->S k):J6 S a c:=
 ⟨h2.os.trans h1.os,h2.tape.trans h1.tape,h2.output.trans h1.output,Nat.le_trans h1.size h2.size,fun k hk hs=>
  (h2.block k (Nat.lt_of_lt_of_le hk h1.size) fun ht=>hs (hT k hk ht)).trans (h1.block k hk hs)⟩
theorem J6.trans' {S:Nat->Prop} {a b c:World} (h1:J6 S a b) (h2:J6 S b c):J6 S a c:=h1.trans h2 fun _ _ h=>h
theorem J6.less {S T:Nat->Prop} {a b:World} (h:J6 T a b) (hT:∀k,k<a.heap.size->T k->S k):J6 S a b:=(J6.refl a).trans h hT
theorem J6.setCell {S:Nat->Prop} {W W':World} (h:J6 S W W') {b:Nat} (hb:S b) (o:Nat) (u:Value):J6 S W (W'.setCell ⟨b,o,none⟩ u):=
 ⟨h.os,h.tape,h.output,by rw [show(W'.setCell ⟨b,o,none⟩ u).heap.size=W'.heap.size from by simp];exact h.size,fun k hk hs=>by
  rw [heap_setCell_other _ _ _ _ (by show k≠b;exact fun he=>hs (he ▸ hb))];exact h.block k hk hs⟩
theorem J6.below {S:Nat->Prop} {w W W':World} (h:Below w.heap.size w W) (hk:J6 S W W') (hs:∀k,k<w.heap.size->¬S k):Below w.heap.size w W':=
 ⟨hk.os.trans h.os,hk.tape.trans h.tape,hk.output.trans h.output,Nat.le_trans h.size hk.size,fun k hk'=>
  (hk.block k (Nat.lt_of_lt_of_le hk' h.size) (hs k hk')).trans (h.block k hk')⟩
theorem J6.cell {S:Nat->Prop} {W W':World} (h:J6 S W W') {b o:Nat} {v:Value} (hs:¬S b) (hc:W.cell? ⟨b,o,none⟩=some v):W'.cell? ⟨b,o,none⟩=some v:=
 Jr (h.block b (block_lt_of_cell hc) hs) hc
theorem J6.own {S:Nat->Prop} {W W':World} (h:J6 S W W') {base n size:Nat} {e:TypeId} {v:Value} {xs:List Value} (hs:∀b,v.ownBlock=some b->¬S b) (ho:W.ownsRow base e size v n xs):W'.ownsRow base e size v n xs:=by
 obtain⟨k,hk⟩:∃k,k=v.ownBlock:=⟨_,rfl⟩
 rcases ho with ⟨h1,h2⟩
 refine⟨h1,?_⟩
 rcases h2 with h2|⟨g,cap,os,hv,hb,hg,h3⟩
 ·exact .inl h2
 ·refine .inr ⟨g,cap,os,hv,hb,?_,h3⟩
  have am:g<W.heap.size:=by
   rcases Nat.lt_or_ge g W.heap.size with h4|h4
   ·exact h4
   ·rw [Array.getElem?_eq_none h4] at hg;cases hg
  rw [h.block g am (hs g (by rw [hv];rfl))];exact hg
theorem Jp6 {S:Nat->Prop} {base:Nat} {W W':World} {P:World->Prop} (h:Off base none W P) (hk:J6 S W W') (hs:∀k,base<=k->k<W.heap.size->¬S k):P W':=
 h W' fun k h1 h2 _=>hk.block k h2 (hs k h1 h2)
theorem sa1 {α:Type} {xs:List α} {i:Nat} {a:α} : xs.toArray.setIfInBounds i a=(xs.set i a).toArray:=List.setIfInBounds_toArray ..
theorem sa2 {α:Type} {a b:α} {l:List α} : (a :: l).set 0 b=b :: l:=List.set_cons_zero
theorem sa3 {α:Type} {a b:α} {l:List α} {n:Nat} : (a :: l).set (n+1) b=a :: l.set n b:=List.set_cons_succ
section
variable {P:Program} {ops:Array Oper} {Q:Exit->Act->World->Prop} {md:Region.Mode} {S:World->Prop}
def Jab (P:Program) (md:Region.Mode) (ops:Array Oper) (Q:Exit->Act->World->Prop) (S:World->Prop) (n g:Nat):Nat->Array Bool->Act->World->Prop
 | 0,listed,a,w=>(∀j∈Region.ready md ops listed,n<=j)/\wpAny P md ops Q g listed a w
 | f+1,listed,a,w=>Region.ready md ops listed≠[]/\∀i∈Region.ready md ops listed,wpOp P ops Q i (fun a' w'=>S w'/\Jab P md ops Q S n g f (listed.setIfInBounds i true) a' w') a w
theorem Jjy {n g:Nat} : ∀(f:Nat) (listed:Array Bool) (a:Act) (w:World),Jab P md ops Q S n g f listed a w->wpAny P md ops Q (f+g) listed a w
 | 0,listed,a,w,h=>by rw [Nat.zero_add];exact h.2
 | f+1,listed,a,w,h=>by
  rw [show f+1+g=(f+g)+1 by omega];exact⟨fun h0=>absurd h0 h.1,fun i hi=>wpOp_mono (fun a' w' h'=>Jjy f _ a' w' h'.2) (h.2 i hi)⟩
theorem Jsl {n g i:Nat} {oi:Oper} {v:Value} (hi:ops[i]?=some oi) (xv:∀(j:Nat) (o:Oper) cs b,ops[j]?=some o->o.op≠ .select cs b)
  (hs:Region.sinkB md ops n=true) (hc:Region.chainB md ops n=true) (hn:n<ops.size) (dV:i<n) (hQ:∀c a w,Q (.panic c) (a.put oi.dst v) w->Q (.panic c) a w) :
  ∀(f:Nat) (listed:Array Bool) (a:Act) (w:World),HeadInv md ops n listed->
   (∀j oj,ops[j]?=some oj->j≠i->listed.getD j true=false->(∀e∈oj.after,Region.binds md e=true->e.on≠i)->oi.apart ops oj=true)->
   i∈Region.ready md ops listed->YieldsIf P ops S oi v a->S w->
   Jab P md ops Q S n g f (listed.setIfInBounds i true) (a.put oi.dst v) w->Jab P md ops Q S n g (f+1) listed a w:=by
 intro f
 induction f with
 | zero=>
  intro listed a w inv _ hr hy hS H;have gG:=(mem_ready.1 hr).1;refine⟨fun h=>(by rw [h] at hr;cases hr),fun j hj=>?_⟩
  have hjn:j<n:=by
   rcases Nat.lt_or_ge j n with h|h
   ·exact h
   ·exact absurd hj (tail_waits hs hc hn inv _ i rfl dV gG j h)
  by_cases jO:j=i
  ·subst jO;exact hy.wpOp hi hS ⟨hS,H⟩
  ·have:=H.1 j (ready_mono hj jO);omega
 | succ f ih=>
  intro listed a w inv sm hr hy hS H;have gG:=(mem_ready.1 hr).1;refine⟨fun h=>(by rw [h] at hr;cases hr),fun j hj=>?_⟩
  have hjn:j<n:=by
   rcases Nat.lt_or_ge j n with h|h
   ·exact h
   ·exact absurd hj (tail_waits hs hc hn inv _ i rfl dV gG j h)
  by_cases jO:j=i
  ·subst jO;exact hy.wpOp hi hS ⟨hS,H⟩
  ·have h1:=H.2 j (ready_mono hj jO);obtain⟨xw,oj,hoj,eF⟩:=mem_ready.1 hj
   have hnot:∀e∈oj.after,Region.binds md e=true->e.on≠i:=fun e he hb ou=>by
    have h2:=eF e he hb;rw [ou,getD_both gG] at h2
    cases h2
   have h2:=wpOp_putIf hoj (sm j oj hoj jO xw hnot) (fun cs b=>xv i oi cs b hi) (fun cs b=>xv j oj cs b hoj) hQ hy h1;refine wpOp_mono (fun a' w' h3=>⟨h3.2.1,ih (listed.setIfInBounds j true) a' w' (inv.set hj hjn) (fun k ok hk hki hku oG=>sm k ok hk hki ?_ oG) (ready_mono hr (Ne.symm jO)) h3.1 h3.2.1 ?_⟩) h2
   ·by_cases tB:j=k
    ·subst tB;exact xw
    ·rw [getD_set_ne true tB] at hku;exact hku
   ·rw [Array.setIfInBounds_comm _ _ jO];exact h3.2.2
def Jlx (md:Region.Mode) (ops:Array Oper) (n:Nat) (listed:Array Bool):Bool:=
 (listed.size == ops.size) && (List.range ops.size).all (fun j=>!listed.getD j false || (match ops[j]? with|some o=>o.after.all (fun e=>!Region.binds md e || listed.getD e.on false)|none=>true)) &&
  (List.range ops.size).all (fun t=>decide (t<n) || !listed.getD t true)
theorem Jqn {n:Nat} {listed:Array Bool} (h:Jlx md ops n listed=true):HeadInv md ops n listed:=by
 simp only [Jlx,Bool.and_eq_true,beq_iff_eq,List.all_eq_true,List.mem_range] at h;obtain⟨⟨h1,h2⟩,h3⟩:=h;refine⟨h1,fun j oj hj hl e he hb=>?_,fun t ht am=>?_⟩
 ·have h4:=h2 j (Array.getElem?_eq_some_iff.1 hj).1;rw [hl,hj] at h4;simp only [Bool.not_true,Bool.false_or,Array.all_eq_true_iff_forall_mem] at h4;have h5:=h4 e he;rw [hb] at h5;simpa using h5
 ·have h4:=h3 t am;rw [show decide (t<n)=false from by simpa using ht] at h4;simpa using h4
theorem Jt1 {n g i:Nat} {oi:Oper} {v:Value} {f:Nat} {listed:Array Bool} {a:Act} {w:World} (hi:ops[i]?=some oi)
  (fE:Region.noSelect ops=true) (hs:Region.sinkB md ops n=true) (hc:Region.chainB md ops n=true) (hn:decide (n<ops.size)=true) (dV:decide (i<n)=true)
  (hv:Jlx md ops n listed=true) (hf:Region.free md ops listed i=true) (hr:(Region.ready md ops listed).contains i=true)
  (hQ:∀c a w,Q (.panic c) (a.put oi.dst v) w->Q (.panic c) a w) (hy:YieldsIf P ops S oi v a) (hS:S w)
  (h:Jab P md ops Q S n g f (listed.setIfInBounds i true) (a.put oi.dst v) w):Jab P md ops Q S n g (f+1) listed a w:=
 Jsl hi (Region.noSelect_spec fE) hs hc (of_decide_eq_true hn) (of_decide_eq_true dV) hQ f listed a w (Jqn hv) (Region.free_spec hi hf) (by simpa using hr) hy hS h
theorem Jv9 {n g i:Nat} {oi:Oper} {f:Nat} {listed:Array Bool} {a:Act} {w:World} (hr:Region.ready md ops listed = [i]) (hi:ops[i]?=some oi) (hg:oi.guard=none)
  (h:oi.wp P a w (fun a' w'=>S w'/\Jab P md ops Q S n g f (listed.setIfInBounds i true) a' w') Q):Jab P md ops Q S n g (f+1) listed a w:=by
 refine⟨fun h0=>(by rw [hr] at h0;cases h0),fun j hj=>?_⟩;rw [hr] at hj;obtain rfl:=List.mem_singleton.1 hj;unfold wpOp;have hw:Region.wanted oi (yielded ops a.tmps)=true:=by simp [Region.wanted,hg]
 simp only [hi,hw,if_true];exact .inl h
theorem Ji {n g:Nat} (i:Nat) {oi:Oper} {v:Value} {f:Nat} {listed:Array Bool} {a a':Act} {w:World} (hS:S w) (h:Jab P md ops Q S n g f (listed.setIfInBounds i true) a' w)
  (hi:ops[i]?=some oi:=by simp only [List.getElem?_toArray,List.getElem?_cons_succ,List.getElem?_cons_zero];rfl) (eH:∀w,S w->(execOp a.eval oi).run P w = .ok (.value v) w:=by intro w' hSw;go_simp;first|done|with_reducible rfl)
  (iF:a.put oi.dst v=a':=by simp only [Act.put,List.setIfInBounds_toArray,List.set_cons_zero,List.set_cons_succ];first|done|rfl)
  (fE:Region.noSelect ops=true:=by kernel_rfl) (hs:Region.sinkB md ops n=true:=by kernel_rfl) (hc:Region.chainB md ops n=true:=by kernel_rfl) (hn:decide (n<ops.size)=true:=by kernel_rfl) (dV:decide (i<n)=true:=by kernel_rfl)
  (hv:Jlx md ops n listed=true:=by kernel_rfl) (hf:Region.free md ops listed i=true:=by kernel_rfl) (hr:(Region.ready md ops listed).contains i=true:=by kernel_rfl)
  (hQ:∀c a w,Q (.panic c) (a.put oi.dst v) w->Q (.panic c) a w:=by intro _ _ _ h;exact h) (hw:Region.wanted oi (yielded ops a.tmps)=true:=by rfl):Jab P md ops Q S n g (f+1) listed a w:=
 Jt1 hi fE hs hc hn dV hv hf hr hQ (.inl ⟨hw,eH⟩) hS (iF ▸ h)
theorem Kb {n g:Nat} (i:Nat) {oi:Oper} {f:Nat} {listed:Array Bool} {a:Act} {w:World} (h:oi.wp P a w (fun a' w'=>S w'/\Jab P md ops Q S n g f (listed.setIfInBounds i true) a' w') Q)
  (hr:Region.ready md ops listed = [i]:=by kernel_rfl) (hi:ops[i]?=some oi:=by simp only [List.getElem?_toArray,List.getElem?_cons_succ,List.getElem?_cons_zero];rfl) (hg:oi.guard=none:=by rfl):Jab P md ops Q S n g (f+1) listed a w:=
 Jv9 hr hi hg h
theorem Kh {n g:Nat} {listed:Array Bool} {a:Act} {w:World} (hr:Region.ready md ops listed = [n]) (h:wpAny P md ops Q g listed a w):Jab P md ops Q S n g 0 listed a w:=
 ⟨fun j hj=>by rw [hr] at hj;rw [List.mem_singleton.1 hj];exact Nat.le_refl _,h⟩
theorem Jt0 {g i:Nat} {oi:Oper} {listed:Array Bool} {a:Act} {w:World} (hr:Region.ready md ops listed = [i]) (hi:ops[i]?=some oi) (hg:oi.guard=none)
  (h:oi.wp P a w (wpAny P md ops Q g (listed.setIfInBounds i true)) Q):wpAny P md ops Q (g+1) listed a w:=by
 refine⟨fun h0=>(by rw [hr] at h0;cases h0),fun j hj=>?_⟩;rw [hr] at hj;obtain rfl:=List.mem_singleton.1 hj;unfold wpOp;have hw:Region.wanted oi (yielded ops a.tmps)=true:=by simp [Region.wanted,hg]
 simp only [hi,hw,if_true];exact .inl h
theorem Qx {g:Nat} (i:Nat) {oi:Oper} {listed:Array Bool} {a:Act} {w:World} (h:oi.wp P a w (wpAny P md ops Q g (listed.setIfInBounds i true)) Q)
  (hr:Region.ready md ops listed = [i]:=by kernel_rfl) (hi:ops[i]?=some oi:=by simp only [List.getElem?_toArray,List.getElem?_cons_succ,List.getElem?_cons_zero];rfl) (hg:oi.guard=none:=by rfl):wpAny P md ops Q (g+1) listed a w:=
 Jt0 hr hi hg h
theorem Ki {listed:Array Bool} {a:Act} {w:World} (hr:Region.ready md ops listed = []) (h:Q .normal a w):wpAny P md ops Q 0 listed a w:=⟨hr,h⟩
theorem Kd (S:World->Prop) (n g:Nat) {id:Nat} {a:Act} {w:World} (hm:P.follows .mixedOrders=true) (cE:ops.size=n+g)
  (h:Jab P .any ops Q S n g n (Array.replicate ops.size false) a w.drew):(Code.region id ops true).wp P Q a w:=by
 refine wp_region_any hm ?_;rw [show ops.size=n+g from cE] at h ⊢;exact Jjy n _ a _ h
theorem Jj {o:Oper} {a:Act} {w:World} {K:Act->World->Prop} (h:∀K':Act->World->Prop,(∀a w,K a w->K' a w)->o.wp P a w K' Q):o.wp P a w K Q:=h K fun _ _ h=>h
theorem Zc {Q:Exit->Act->World->Prop} {e:Exit} {a:Act} {W:World} (h:∀W0,W0=W->Q e a W0):Q e a W:=h W rfl
theorem Jgr {g:Nat} {listed:Array Bool} {a:Act} {w:World} (h:∀W0,W0=w->wpAny P md ops Q g listed a W0):wpAny P md ops Q g listed a w:=h w rfl
theorem Ys {n g f:Nat} {listed:Array Bool} {a:Act} {w:World} (h:∀W0,W0=w->Jab P md ops Q S n g f listed a W0):Jab P md ops Q S n g f listed a w:=h w rfl
end
theorem Xi (W:World) (p:Addr):W.drew.cell? p=W.cell? p:=rfl
theorem Jdn (W:World) (p:Addr):W.drew.frozen? p=W.frozen? p:=rfl
theorem J5 (W:World) (b o j:Nat) (v:Value) (h:j≠o):(W.setCell ⟨b,o,none⟩ v).cell? ⟨b,j,none⟩=W.cell? ⟨b,j,none⟩:=World.cell?_setCell_other _ _ _ _ (by intro he;injection he with e1 e2;first|exact h e2|exact h e2.symm)
theorem Qm (W:World) (b o c j:Nat) (v:Value) (h:c≠b):(W.setCell ⟨b,o,none⟩ v).cell? ⟨c,j,none⟩=W.cell? ⟨c,j,none⟩:=World.cell?_setCell_other _ _ _ _ (by intro he;injection he with e1 e2;first|exact h e1|exact h e1.symm)
theorem Jp5 {W:World} {b:Nat} {u0 u1 u2:Value} (v0 v1 v2:Value) (h0:W.cell? ⟨b,0,none⟩=some u0) (h1:W.cell? ⟨b,1,none⟩=some u1) (h2:W.cell? ⟨b,2,none⟩=some u2) :
  (((W.setCell ⟨b,0,none⟩ v0).setCell ⟨b,1,none⟩ v1).setCell ⟨b,2,none⟩ v2).cell? ⟨b,0,none⟩=some v0/\(((W.setCell ⟨b,0,none⟩ v0).setCell ⟨b,1,none⟩ v1).setCell ⟨b,2,none⟩ v2).cell? ⟨b,1,none⟩=some v1/\(((W.setCell ⟨b,0,none⟩ v0).setCell ⟨b,1,none⟩ v1).setCell ⟨b,2,none⟩ v2).cell? ⟨b,2,none⟩=some v2:=by
 refine⟨?_,?_,?_⟩
 ·rw [J5 _ _ _ _ _ (by decide),J5 _ _ _ _ _ (by decide)];exact World.cell?_setCell_same _ _ _ h0
 ·rw [J5 _ _ _ _ _ (by decide)];exact World.cell?_setCell_same _ _ _ (by rw [J5 _ _ _ _ _ (by decide)];exact h1)
 ·exact World.cell?_setCell_same _ _ _ (by rw [J5 _ _ _ _ _ (by decide),J5 _ _ _ _ _ (by decide)];exact h2)
theorem Qy {W:World} {b:Nat} (v0 v1 v2:Value) {c j:Nat} (h:c≠b):(((W.setCell ⟨b,0,none⟩ v0).setCell ⟨b,1,none⟩ v1).setCell ⟨b,2,none⟩ v2).cell? ⟨c,j,none⟩=W.cell? ⟨c,j,none⟩:=by rw [Qm _ _ _ _ _ _ h,Qm _ _ _ _ _ _ h,Qm _ _ _ _ _ _ h]
theorem Jev {W:World} {b:Nat} (v0 v1 v2:Value) (p:Addr):(((W.setCell ⟨b,0,none⟩ v0).setCell ⟨b,1,none⟩ v1).setCell ⟨b,2,none⟩ v2).frozen? p=W.frozen? p:=by rw [World.frozen?_setCell,World.frozen?_setCell,World.frozen?_setCell]
theorem Jsy {W:World} {b:Nat} {u0 u1 u2 u3 u4:Value} (v0 v1 v2 v3 v4:Value) (h0:W.cell? ⟨b,0,none⟩=some u0) (h1:W.cell? ⟨b,1,none⟩=some u1) (h2:W.cell? ⟨b,2,none⟩=some u2) (h3:W.cell? ⟨b,3,none⟩=some u3) (h4:W.cell? ⟨b,4,none⟩=some u4) :
  (((((W.setCell ⟨b,0,none⟩ v0).setCell ⟨b,1,none⟩ v1).setCell ⟨b,2,none⟩ v2).setCell ⟨b,3,none⟩ v3).setCell ⟨b,4,none⟩ v4).cell? ⟨b,0,none⟩=some v0/\(((((W.setCell ⟨b,0,none⟩ v0).setCell ⟨b,1,none⟩ v1).setCell ⟨b,2,none⟩ v2).setCell ⟨b,3,none⟩ v3).setCell ⟨b,4,none⟩ v4).cell? ⟨b,1,none⟩=some v1/\(((((W.setCell ⟨b,0,none⟩ v0).setCell ⟨b,1,none⟩ v1).setCell ⟨b,2,none⟩ v2).setCell ⟨b,3,none⟩ v3).setCell ⟨b,4,none⟩ v4).cell? ⟨b,2,none⟩=some v2/\(((((W.setCell ⟨b,0,none⟩ v0).setCell ⟨b,1,none⟩ v1).setCell ⟨b,2,none⟩ v2).setCell ⟨b,3,none⟩ v3).setCell ⟨b,4,none⟩ v4).cell? ⟨b,3,none⟩=some v3/\(((((W.setCell ⟨b,0,none⟩ v0).setCell ⟨b,1,none⟩ v1).setCell ⟨b,2,none⟩ v2).setCell ⟨b,3,none⟩ v3).setCell ⟨b,4,none⟩ v4).cell? ⟨b,4,none⟩=some v4:=by
 refine⟨?_,?_,?_,?_,?_⟩
 ·rw [J5 _ _ _ _ _ (by decide),J5 _ _ _ _ _ (by decide),J5 _ _ _ _ _ (by decide),J5 _ _ _ _ _ (by decide)];exact World.cell?_setCell_same _ _ _ h0
 ·rw [J5 _ _ _ _ _ (by decide),J5 _ _ _ _ _ (by decide),J5 _ _ _ _ _ (by decide)];exact World.cell?_setCell_same _ _ _ (by rw [J5 _ _ _ _ _ (by decide)];exact h1)
 ·rw [J5 _ _ _ _ _ (by decide),J5 _ _ _ _ _ (by decide)];exact World.cell?_setCell_same _ _ _ (by rw [J5 _ _ _ _ _ (by decide),J5 _ _ _ _ _ (by decide)];exact h2)
 ·rw [J5 _ _ _ _ _ (by decide)];exact World.cell?_setCell_same _ _ _ (by rw [J5 _ _ _ _ _ (by decide),J5 _ _ _ _ _ (by decide),J5 _ _ _ _ _ (by decide)];exact h3)
 ·exact World.cell?_setCell_same _ _ _ (by rw [J5 _ _ _ _ _ (by decide),J5 _ _ _ _ _ (by decide),J5 _ _ _ _ _ (by decide),J5 _ _ _ _ _ (by decide)];exact h4)
theorem Q8 {W:World} {b:Nat} (v0 v1 v2 v3 v4:Value) {c j:Nat} (h:c≠b):(((((W.setCell ⟨b,0,none⟩ v0).setCell ⟨b,1,none⟩ v1).setCell ⟨b,2,none⟩ v2).setCell ⟨b,3,none⟩ v3).setCell ⟨b,4,none⟩ v4).cell? ⟨c,j,none⟩=W.cell? ⟨c,j,none⟩:=by rw [Qm _ _ _ _ _ _ h,Qm _ _ _ _ _ _ h,Qm _ _ _ _ _ _ h,Qm _ _ _ _ _ _ h,Qm _ _ _ _ _ _ h]
theorem Ji7 {W:World} {b:Nat} (v0 v1 v2 v3 v4:Value) (p:Addr):(((((W.setCell ⟨b,0,none⟩ v0).setCell ⟨b,1,none⟩ v1).setCell ⟨b,2,none⟩ v2).setCell ⟨b,3,none⟩ v3).setCell ⟨b,4,none⟩ v4).frozen? p=W.frozen? p:=by rw [World.frozen?_setCell,World.frozen?_setCell,World.frozen?_setCell,World.frozen?_setCell,World.frozen?_setCell]
theorem Qq {m:Nat} {w W:World} {b:Nat} (v0 v1 v2:Value) (h:Below m w W) (hb:m<=b):Below m w (((W.setCell ⟨b,0,none⟩ v0).setCell ⟨b,1,none⟩ v1).setCell ⟨b,2,none⟩ v2):=(Below.setCell (Below.setCell (Below.setCell h hb _) hb _) hb _)
theorem Jdj {m:Nat} {w W:World} {b:Nat} (v0 v1 v2 v3 v4:Value) (h:Below m w W) (hb:m<=b):Below m w (((((W.setCell ⟨b,0,none⟩ v0).setCell ⟨b,1,none⟩ v1).setCell ⟨b,2,none⟩ v2).setCell ⟨b,3,none⟩ v3).setCell ⟨b,4,none⟩ v4):=(Below.setCell (Below.setCell (Below.setCell (Below.setCell (Below.setCell h hb _) hb _) hb _) hb _) hb _)
theorem Jzq:(Tryz.prog.info? 75).map (fun i=>(i.zero,i.size,i.bytes))=some (some (.agg #[.string ⟨#[]⟩,.int .i64 0,.int .i64 0,.int .i32 0,.string ⟨#[]⟩,.slice none 0 0,.int .i64 0,.int .i32 0,.string ⟨#[]⟩,.slice none 0 0]),10,136):=by kernel_rfl
theorem Jle {P:Program} {f:FuncId} {args:Array Value} {R:Ending->World->Prop} {W:World} (h:∀W0,W0=W->Calls P f args W0 R):Calls P f args W R:=h W rfl
def Jc4 (B:Nat) (v:Value) (wr:World) (l:List Qe) (ls:List ((Option Addr×Nat)×(Option Addr×Nat))):Prop:=
 ∀(j:Nat) (q:Qe) (a:(Option Addr×Nat)×(Option Addr×Nat)),l[j]?=some q->ls[j]?=some a->Off B v.ownBlock wr (fun V=>Jt V q.first a.1.1 a.1.2/\Jt V q.e a.2.1 a.2.2)
theorem Jc4.step {B m1 m2:Nat} {v v2:Value} {wr w1 w2 w3:World} {l:List Qe} {q:Qe} {ls:List ((Option Addr×Nat)×(Option Addr×Nat))} {k:Nat} {a:(Option Addr×Nat)×(Option Addr×Nat)}
  (h:Jc4 B v wr l ls) (hk:ls.length=k) (hq:l[k]?=some q) (hB:B<=wr.heap.size) (iw:wr.heap.size<=m1) (cI:wr.heap.size<=m2)
  (n1:Off m1 none w1 (fun V=>Jt V q.first a.1.1 a.1.2)) (n2:Off m2 none w2 (fun V=>Jt V q.e a.2.1 a.2.2))
  (s0:∀b,b<wr.heap.size->some b≠v.ownBlock->w3.heap[b]?=wr.heap[b]?) (s1:∀b,m1<=b->b<w1.heap.size->w3.heap[b]?=w1.heap[b]?) (s2:∀b,m2<=b->b<w2.heap.size->w3.heap[b]?=w2.heap[b]?)
  (z1:w1.heap.size<=w2.heap.size) (z2:w2.heap.size<=w3.heap.size) (z0:wr.heap.size<=w1.heap.size)
  (hv:∀b,v.ownBlock=some b->b<wr.heap.size) (aI:v2.ownBlock=v.ownBlock\/∀b,v2.ownBlock=some b->w2.heap.size<=b):Jc4 B v2 w3 l (ls ++ [a]):=by
 have jv:∀b,v2.ownBlock=some b->b<wr.heap.size\/w2.heap.size<=b:=fun b hb=>by
  rcases aI with aI|aI
  ·rw [aI] at hb;exact .inl (hv b hb)
  ·exact .inr (aI b hb)
 intro j x c hx hc
 rcases Nat.lt_or_ge j ls.length with hj|hj
 ·rw [List.getElem?_append_left hj] at hc;refine(h j x c hx hc).grow (fun b _ hb aS=>s0 b hb aS) (by omega) ?_
  rcases aI with aI|aI
  ·exact .inl aI
  ·exact .inr fun b hb=>by have:=aI b hb;omega
 ·obtain rfl:j=ls.length:=by
   have:=(List.getElem?_eq_some_iff.1 hc).1;simp at this;omega
  rw [List.getElem?_append_right (Nat.le_refl _)] at hc;simp at hc;subst hc;obtain rfl:q=x:=by rw [<-hk,hx] at hq;injection hq with hq;exact hq.symm
  have f1:Off B v2.ownBlock w3 (fun V=>Jt V q.first a.1.1 a.1.2):=n1.fresh (by omega) s1 (by omega) fun b hb=>by have:=jv b hb;omega
  have f2:Off B v2.ownBlock w3 (fun V=>Jt V q.e a.2.1 a.2.2):=n2.fresh (by omega) s2 (by omega) fun b hb=>by have:=jv b hb;omega
  exact fun w' jC=>⟨f1 w' jC,f2 w' jC⟩
theorem Jc4.set {B z:Nat} {v:Value} {w:World} {l:List Qe} {ls:List ((Option Addr×Nat)×(Option Addr×Nat))} (h:Jc4 B v w l ls) (hz:z<B) (o:Nat) (u:Value):Jc4 B v (w.setCell ⟨z,o,none⟩ u) l ls:=
 fun j x c hx hc=>(h j x c hx hc).grow (fun b hb _ _=>heap_setCell_other w ⟨z,o,none⟩ b u (by show b≠z;omega)) (by simp) (.inl rfl)
end Go.Proofs.YtdgjplldlfeolaaGreatDoor
namespace Go.Proofs.YtdgjplldlfeolaaGreatDoor
open Go.RowKit
structure Tk where
 kind:Int
 text:ByteArray
 n:Int
 pos:Int
def Kdh (c:Int):Bool:=decide (c=32) || decide (c=9) || decide (c=10) || decide (c=13)
def Kes (c:Int):Bool:=!decide (c=10)
def Kc8 (p:Int->Bool) (s:ByteArray):ByteArray:=s.extract 0 (Zb p s (s.size+1) 0)
def Kd6 (s:ByteArray) (k:Nat):ByteArray:=s.extract k s.size
def Kep (l:List UInt8):Bool:=l == [60,60] || l == [62,62] || l == [60,62] || l == [60,61] || l == [62,61] || l == [45,62] || l == [40] || l == [41] || l == [58] || l == [44] || l == [59] || l == [61] || l == [60] || l == [62] || l == [43] || l == [45] || l == [42] || l == [47] || l == [37] || l == [38] || l == [124] || l == [94]
def Kfl (s:ByteArray):Bool:=Kep s.toList
def Kgb:Nat->ByteArray->ByteArray
 | 0,s=>s
 | f+1,s=>if (Kd6 s (Kc8 Kdh s).size).size<2 then Kd6 s (Kc8 Kdh s).size else if ((Kd6 s (Kc8 Kdh s).size).extract 0 2).toList == [45,45] then Kgb f (Kd6 (Kd6 s (Kc8 Kdh s).size) (Kc8 Kes (Kd6 s (Kc8 Kdh s).size)).size) else Kd6 s (Kc8 Kdh s).size
def Kfi (s:ByteArray):ByteArray:=Kgb (s.size+1) s
def Kee:Int->List UInt8->Option Int
 | n,[]=>some n
 | n,c :: l=>if (c.toNat:Int)<48 then none else if 57<(c.toNat:Int) then none else Kee (10 * n+((c.toNat:Int)-48)) l
def Khf (s:ByteArray):ByteArray:=if s.data.toList.head?=some 45 then Kd6 s 1 else s
def Kfw (s:ByteArray):Int×Bool:=
 if (Khf s).size=0 then(0,false) else if 11<s.size then(0,false)
 else if (Khf s).data.toList.head?=some 48/\s.data.toList≠[48] then(0,false)
 else match Kee 0 (Khf s).data.toList with
  | none=>(0,false)
  | some n=>if -2147483648<=(if s.data.toList.head?=some 45 then -n else n)/\(if s.data.toList.head?=some 45 then -n else n)<=2147483647 then((if s.data.toList.head?=some 45 then -n else n),true) else(0,false)
def Kgi (s:ByteArray):Int:=if h:0<s.size then((s[0]'h).toNat:Int) else 0
def Kdg (s:ByteArray):Tk×Int:=
 if Zh (Kgi s)=true then(if Jdo (Kc8 Q5 s)=true then(⟨3,Kc8 Q5 s,0,0⟩,0) else if 16<(Kc8 Q5 s).size then(⟨1,Kc8 Q5 s,0,0⟩,3) else(⟨1,Kc8 Q5 s,0,0⟩,0))
 else if Jbz (Kgi s)=true then(if (Kfw (Kc8 Jbz s)).2=true then(⟨2,Kc8 Jbz s,(Kfw (Kc8 Jbz s)).1,0⟩,0) else(⟨2,Kc8 Jbz s,0,0⟩,16))
 else if 2<=s.size/\Kfl (s.extract 0 2)=true then(⟨4,s.extract 0 2,0,0⟩,0)
 else if 1<=s.size/\Kfl (s.extract 0 1)=true then(⟨4,s.extract 0 1,0,0⟩,0)
 else(⟨0,⟨#[]⟩,0,0⟩,15)
def Key (size:Nat):Nat->ByteArray->List Tk->List Tk×Int×Int
 | 0,_,out=>(out,0,0)
 | f+1,left,out=>if left.size=0 then(out,0,0) else if (Kdg left).2=0 then Key size f (Kfi (Kd6 left (Kdg left).1.text.size)) (out ++ [{(Kdg left).1 with pos:=(size:Int)-left.size}]) else([],(Kdg left).2,(size:Int)-left.size)
def Kdk (s:ByteArray):List Tk×Int×Int:=if 4096<s.size then([],3,0) else Key s.size (s.size+1) (Kfi s) []
abbrev mkB (l:List UInt8):ByteArray:=⟨l.toArray⟩
theorem Kd2 (l:List UInt8):(mkB l).size=l.length:=by rw [<-ByteArray.size_data];simp
theorem Khs (s:ByteArray):mkB s.toList=s:=by
 ext1;rw [ByteArray.toList_eq]
theorem Kde (l:List UInt8):(mkB l).toList=l:=by rw [ByteArray.toList_eq]
theorem Ke1 (l:List UInt8) (i j:Nat):(mkB l).extract i j=mkB ((l.take j).drop i):=by
 ext1;simp [List.drop_take]
theorem Kh4 (l:List UInt8) (i:Nat) (h:i<(mkB l).size):(mkB l)[i]'h=l[i]'(by rw [Kd2] at h;exact h):=by
 change (mkB l).data[i]=_
 simp
theorem Kn1 (a b:List UInt8):(mkB (a ++ b)).extract 0 a.length=mkB a:=by rw [Ke1];simp
theorem Kkx (a b:List UInt8):Kd6 (mkB (a ++ b)) a.length=mkB b:=by
 unfold Kd6;rw [Ke1,Kd2,List.take_of_length_le (Nat.le_refl _)];simp
theorem Kgs (p:Int->Bool) (b:List UInt8) (hb:∀d,b.head?=some d->d.toNat<128/\p (d.toNat:Int)=false):∀(a pre:List UInt8),(∀c∈a,c.toNat<128/\p (c.toNat:Int)=true)->∀f,a.length<f->Zb p (mkB (pre ++ (a ++ b))) f pre.length=pre.length+a.length
 | [],pre,_,f,hf=>by
  obtain⟨f,rfl⟩:∃k,f=k+1:=⟨f-1,by simp at hf;omega⟩;rw [Zb]
  cases b with
  | nil=>rw [if_neg (by rw [Kd2];simp)];rw [Kd2];simp
  | cons d b=>
   have h:=hb d rfl;have am:pre.length<(mkB (pre ++ ([] ++ d :: b))).size:=by rw [Kd2];simp
   have he:(mkB (pre ++ ([] ++ d :: b)))[pre.length]'am=d:=by rw [Kh4];simp
   rw [if_pos am,decode_ascii _ _ am (by rw [he];exact h.1),he];simp only [h.2];simp
 | c :: a,pre,ha,f,hf=>by
  obtain⟨f,rfl⟩:∃k,f=k+1:=⟨f-1,by simp at hf;omega⟩;have h:=ha c (by simp);have am:pre.length<(mkB (pre ++ (c :: a ++ b))).size:=by rw [Kd2];simp
  have he:(mkB (pre ++ (c :: a ++ b)))[pre.length]'am=c:=by rw [Kh4];simp
  rw [Zb,if_pos am,decode_ascii _ _ am (by rw [he];exact h.1),he];simp only [h.2,if_true];have ih:=Kgs p b hb a (pre ++ [c]) (fun x hx=>ha x (by simp [hx])) f (by simp at hf;omega);simp only [List.append_assoc,List.singleton_append,List.length_append,List.length_singleton] at ih;rw [List.cons_append,ih];simp;omega
theorem Kha (p:Int->Bool) (a b:List UInt8) (ha:∀c∈a,c.toNat<128/\p (c.toNat:Int)=true) (hb:∀d,b.head?=some d->d.toNat<128/\p (d.toNat:Int)=false):Kc8 p (mkB (a ++ b))=mkB a:=by
 have h:=Kgs p b hb a [] ha ((mkB (a ++ b)).size+1) (by rw [Kd2];simp;omega);simp only [List.nil_append,List.length_nil,Nat.zero_add] at h;unfold Kc8;rw [h,Kn1]
def Khr (s:List UInt8):Prop:=∀d,s.head?=some d->d.toNat<128/\Q5 (d.toNat:Int)=false
abbrev Tq:=Int×ByteArray×Int
def Tk.q (t:Tk):Tq:=(t.kind,t.text,t.n)
def Kjq (b:List UInt8):Prop:=(∃c t,b=c :: t/\Zh (c.toNat:Int)=true)/\(∀c∈b,c.toNat<128/\Q5 (c.toNat:Int)=true)/\(Jdo (mkB b)=true\/b.length<=16)
inductive LX:List UInt8->List Tq->Prop
 | nil:LX [] []
 | blank {c s l} : Kdh (c.toNat:Int)=true->LX s l->LX (c :: s) l
 | word {b s l} : Kjq b->Khr s->LX s l->LX (b ++ s) ((if Jdo (mkB b)=true then 3 else 1,mkB b,0) :: l)
 | num {n s l} : 0<=n->n<=2147483647->Khr s->LX s l->LX (Jgk n ++ s) ((2,Zn n,n) :: l)
 | one {c s l} : Kep [c]=true->(∀d,s.head?=some d->Kep [c,d]=false/\¬(c=45/\d=45))->LX s l->LX (c :: s) ((4,mkB [c],0) :: l)
 | two {c d s l} : Kep [c,d]=true->LX s l->LX (c :: d :: s) ((4,mkB [c,d],0) :: l)
theorem Kim (bl r:List UInt8) (ij:∀c∈bl,Kdh (c.toNat:Int)=true) (hr:∀d,r.head?=some d->d.toNat<128/\Kdh (d.toNat:Int)=false) (h2:r.take 2≠[45,45]):Kfi (mkB (bl ++ r))=mkB r:=by
 have hh:Kc8 Kdh (mkB (bl ++ r))=mkB bl:=Kha _ _ _ (fun c hc=>⟨by
  have:=ij c hc;simp only [Kdh,Bool.or_eq_true,decide_eq_true_eq] at this;omega,ij c hc⟩) hr
 have hc:Kd6 (mkB (bl ++ r)) (Kc8 Kdh (mkB (bl ++ r))).size=mkB r:=by rw [hh,Kd2,Kkx]
 unfold Kfi;rw [Kgb,hc]
 split
 ·rfl
 ·rw [if_neg];rw [Ke1,List.drop_zero,Kde];simpa using h2
theorem Kgp (c:UInt8) (s:List UInt8):Kgi (mkB (c :: s))=(c.toNat:Int):=by
 have h:0<(mkB (c :: s)).size:=by rw [Kd2];simp
 unfold Kgi;rw [dif_pos h,Kh4];rfl
theorem Kle {c:Int} (h:Zh c=true):Kdh c=false/\Jbz c=false/\c≠45:=by
 simp only [Zh,decide_eq_true_eq] at h;simp only [Kdh,Jbz,Bool.or_eq_false_iff,decide_eq_false_iff_not];omega
theorem Khv {c:Int} (h:Jbz c=true):Kdh c=false/\Zh c=false/\c≠45/\c<128:=by
 simp only [Jbz,decide_eq_true_eq] at h;simp only [Kdh,Zh,Bool.or_eq_false_iff,decide_eq_false_iff_not];omega
theorem Khu {c:UInt8} {t:List UInt8} (h:Kep (c :: t)=true):Kdh (c.toNat:Int)=false/\Zh (c.toNat:Int)=false/\Jbz (c.toNat:Int)=false/\c.toNat<128:=by
 simp only [Kep,Bool.or_eq_true,beq_iff_eq,List.cons.injEq] at h
 have hc:c=60\/c=62\/c=45\/c=40\/c=41\/c=58\/c=44\/c=59\/c=61\/c=43\/c=42\/c=47\/c=37\/c=38\/c=124\/c=94:=by
  rcases h with ((((((((((((((((((((h|h)|h)|h)|h)|h)|h)|h)|h)|h)|h)|h)|h)|h)|h)|h)|h)|h)|h)|h)|h)|h <;> simp [h.1]
 repeat' rcases hc with rfl|hc
 all_goals first|decide|(subst hc;decide)
theorem Kmg {b s:List UInt8} (h:Kjq b) (hs:Khr s):Kdg (mkB (b ++ s))=(⟨if Jdo (mkB b)=true then 3 else 1,mkB b,0,0⟩,0):=by
 obtain⟨⟨c,t,rfl,hc⟩,ha,hw⟩:=h;have hh:Kc8 Q5 (mkB (c :: t ++ s))=mkB (c :: t):=Kha _ _ _ ha hs;have h0:Kgi (mkB (c :: t ++ s))=(c.toNat:Int):=Kgp _ _;unfold Kdg;rw [h0,if_pos hc,hh]
 by_cases hk:Jdo (mkB (c :: t))=true
 ·rw [if_pos hk,if_pos hk]
 ·rw [if_neg hk,if_neg hk,if_neg];have:=hw.resolve_left hk;rw [Kd2];omega
theorem Kij:∀f n acc,n<10 ^ f->Kee 0 (Jb7 f n acc)=Kee (n:Int) acc
 | 0,n,acc,h=>by
  have:n=0:=by simp at h;exact h
  subst this;rfl
 | f+1,n,acc,h=>by
  have h9:(UInt8.ofNat (48+n % 10)).toNat=48+n % 10:=Jn5 _ (by omega)
  have step:∀m:Int,Kee m (UInt8.ofNat (48+n % 10) :: acc)=Kee (10 * m+((n % 10:Nat):Int)) acc:=by
   intro m;rw [Kee,h9,if_neg (by omega),if_neg (by omega)]
   congr 1
   omega
  rw [Jb7]
  split
  ·rename_i h1;rw [step]
   congr 1
   omega
  ·rw [Kij f (n / 10) _ (by rw [Nat.pow_succ] at h;omega),step]
   congr 1
   omega
theorem Kf9:∀f n acc,0<f->n<10 ^ f->∃c t,Jb7 f n acc=c :: t/\(n≠0->c≠48)
 | 0,_,_,h,_=>by omega
 | f+1,n,acc,_,h=>by
  rw [Jb7]
  split
  ·rename_i h1;refine⟨_,_,rfl,fun hn hc=>?_⟩;have h9:(UInt8.ofNat (48+n % 10)).toNat=48+n % 10:=Jn5 _ (by omega);rw [hc] at h9;have:(48:UInt8).toNat=48:=rfl;omega
  ·rename_i h1
   have hf:0<f:=by
    rcases Nat.eq_zero_or_pos f with rfl|hf
    ·simp at h;omega
    ·exact hf
   obtain⟨c,t,he,hc⟩:=Kf9 f (n / 10) (UInt8.ofNat (48+n % 10) :: acc) hf (by rw [Nat.pow_succ] at h;omega);exact⟨c,t,he,fun _=>hc h1⟩
theorem Kg0:∀f n acc,(∀c∈acc,Jbz (c.toNat:Int)=true)->∀c∈Jb7 f n acc,Jbz (c.toNat:Int)=true
 | 0,_,acc,h=>h
 | f+1,n,acc,h=>by
  have h9:(UInt8.ofNat (48+n % 10)).toNat=48+n % 10:=Jn5 _ (by omega)
  have hc:∀c∈UInt8.ofNat (48+n % 10) :: acc,Jbz (c.toNat:Int)=true:=by
   intro c hc
   rcases List.mem_cons.1 hc with rfl|hc
   ·rw [h9];simp only [Jbz,decide_eq_true_eq];omega
   ·exact h c hc
  rw [Jb7]
  split
  ·exact hc
  ·exact Kg0 f (n / 10) _ hc
theorem Kgj {n:Int} (h:0<=n):Jgk n=Jb7 10 n.natAbs []:=by unfold Jgk;rw [if_neg (by omega)]
theorem Kkb {n:Int} (h0:0<=n) (h1:n<=2147483647):Kfw (Zn n)=(n,true):=by
 obtain⟨c,t,he,hc⟩:=Kf9 10 n.natAbs [] (by omega) (by omega);have hd:=Kij 10 n.natAbs [] (by omega);have eF:=Kg0 10 n.natAbs [] (by simp);have cE:=Jqr n;have hl:(Zn n).data.toList=c :: t:=by unfold Zn;rw [Kgj h0,he]
 have jK:=eF c (by rw [he];simp)
 have hn45:c≠45:=by
  intro e;rw [e] at jK;revert jK;decide
 have hu:Khf (Zn n)=Zn n:=by unfold Khf;rw [hl,if_neg (by simpa using hn45)]
 have hz:(Zn n).size≠0:=by rw [<-ByteArray.size_data,<-Array.length_toList,hl];simp
 unfold Kfw;rw [hu,if_neg hz,if_neg (by omega),if_neg,hl,<-he,hd]
 ·have hx:((Jb7 10 n.natAbs []).head?=some 45)=False:=by rw [he];simpa using hn45
  simp only [Kee,hx,if_false];have:((n.natAbs:Nat):Int)=n:=by omega
  rw [this,if_pos ⟨by omega,h1⟩]
 ·rw [hl];rintro⟨h48,aS⟩;have h48:c=48:=by simpa using h48
  by_cases hn:n.natAbs=0
  ·rw [hn] at he;have:Jb7 10 0 [] = [48]:=by rfl
   rw [this] at he;exact aS he.symm
  ·exact hc hn h48
theorem Kmx {n:Int} {s:List UInt8} (h0:0<=n) (h1:n<=2147483647) (hs:Khr s):Kdg (mkB (Jgk n ++ s))=(⟨2,Zn n,n,0⟩,0):=by
 obtain⟨c,t,he,hc⟩:=Kf9 10 n.natAbs [] (by omega) (by omega);have eF:=Kg0 10 n.natAbs [] (by simp);rw [<-Kgj h0] at he eF
 have hh:Kc8 Jbz (mkB (Jgk n ++ s))=mkB (Jgk n):=Kha _ _ _ (fun c hc=>⟨by have:=(Khv (eF c hc)).2.2.2;omega,eF c hc⟩) (fun d hd=>⟨(hs d hd).1,by
  have:=(hs d hd).2;simp only [Q5,Bool.or_eq_false_iff] at this;exact this.1.2⟩)
 have jK:=eF c (by rw [he];simp);have h0':Kgi (mkB (Jgk n ++ s))=(c.toNat:Int):=by rw [he];exact Kgp _ _
 have hr:=Kkb h0 h1;unfold Kdg;rw [h0',if_neg (by rw [(Khv jK).2.1];simp),if_pos jK,hh];have hm:mkB (Jgk n)=Zn n:=rfl;rw [hm,hr,if_pos rfl]
theorem Knh {c:UInt8} {s:List UInt8} (h:Kep [c]=true) (hs:∀d,s.head?=some d->Kep [c,d]=false/\¬(c=45/\d=45)):Kdg (mkB (c :: s))=(⟨4,mkB [c],0,0⟩,0):=by
 have hn:=Khu h;unfold Kdg;rw [Kgp,if_neg (by rw [hn.2.1];simp),if_neg (by rw [hn.2.2.1];simp),if_neg,if_pos]
 ·rw [Ke1];rfl
 ·rw [Kd2,Ke1];exact⟨by simp,by unfold Kfl;rw [Kde];exact h⟩
 ·rintro⟨h2,hm⟩
  cases s with
  | nil=>rw [Kd2] at h2;simp at h2
  | cons d s=>
   have:=(hs d rfl).1;rw [Ke1] at hm;unfold Kfl at hm;rw [Kde] at hm;exact absurd hm (by simpa using this)
theorem Knb {c d:UInt8} {s:List UInt8} (h:Kep [c,d]=true):Kdg (mkB (c :: d :: s))=(⟨4,mkB [c,d],0,0⟩,0):=by
 have hn:=Khu h;unfold Kdg;rw [Kgp,if_neg (by rw [hn.2.1];simp),if_neg (by rw [hn.2.2.1];simp),if_pos]
 ·rw [Ke1];rfl
 ·rw [Kd2,Ke1];exact⟨by simp,by unfold Kfl;rw [Kde];exact h⟩
theorem Kny {s:List UInt8} {l:List Tq} (h:LX s l):∀(size:Nat) (bl:List UInt8),(∀c∈bl,Kdh (c.toNat:Int)=true)->∀f out,s.length<f->∃l',Key size f (Kfi (mkB (bl ++ s))) out=(out ++ l',0,0)/\l'.map Tk.q=l:=by
 have step:∀(size:Nat) (bl tok s:List UInt8) (t:Tk) (l:List Tq),(∀c∈bl,Kdh (c.toNat:Int)=true)->(∃c r,tok=c :: r/\c.toNat<128/\Kdh (c.toNat:Int)=false)->(tok ++ s).take 2≠[45,45]->Kdg (mkB (tok ++ s))=(t,0)->t.text=mkB tok->(∀f out,s.length<f->∃l',Key size f (Kfi (mkB ([] ++ s))) out=(out ++ l',0,0)/\l'.map Tk.q=l)->∀f out,(tok ++ s).length<f->∃l',Key size f (Kfi (mkB (bl ++ (tok ++ s)))) out=(out ++ l',0,0)/\l'.map Tk.q=t.q :: l:=by
  intro size bl tok s t l ij ⟨c,r,htok,hc,el⟩ h2 qU htx ih f out hf;obtain⟨f,rfl⟩:∃k,f=k+1:=⟨f-1,by omega⟩;have ai:1<=tok.length:=by rw [htok];simp
  rw [List.length_append] at hf
  rw [Kim bl (tok ++ s) ij (by
   intro d hd;rw [htok] at hd;simp at hd;subst hd;exact⟨hc,el⟩) h2,Key,if_neg (by rw [Kd2,List.length_append];omega),qU,if_pos rfl,htx,Kd2,Kkx]
  obtain⟨l',h1,h3⟩:=ih f (out ++ [{t with pos:=(size:Int)-(mkB (tok ++ s)).size}]) (by omega);rw [List.nil_append] at h1;refine⟨{t with pos:=(size:Int)-(mkB (tok ++ s)).size} :: l',?_,?_⟩
  ·rw [show(t,(0:Int)).1=t from rfl,h1,List.append_assoc];rfl
  ·rw [List.map_cons,h3];rfl
 induction h with
 | nil=>
  intro size bl ij f out hf;rw [Kim bl [] ij (by simp) (by simp)];refine⟨[],?_,rfl⟩;obtain⟨f,rfl⟩:∃k,f=k+1:=⟨f-1,by simp at hf;omega⟩;rw [Key,if_pos (by rw [Kd2];rfl),List.append_nil]
 | @blank c s l hc _ ih=>
  intro size bl ij f out hf
  have:=ih size (bl ++ [c]) (fun x hx=>by
   rcases List.mem_append.1 hx with hx|hx
   ·exact ij x hx
   ·simp at hx;subst hx;exact hc) f out (by simp at hf;omega)
  simpa using this
 | @word b s l hw hs _ ih=>
  intro size bl ij;obtain⟨c,t,hb,hc⟩:=hw.1;have qJ:=Kle hc;have:=hw.2.1 c (by rw [hb];simp);refine step size bl b s _ l ij ⟨c,t,hb,this.1,qJ.1⟩ ?_ (Kmg hw hs) rfl (ih size [] (by simp));rw [hb];intro e
  have:c=45:=by
   have:=congrArg List.head? e;simpa using this
  rw [this] at qJ;exact qJ.2.2 rfl
 | @num n s l h0 h1 hs _ ih=>
  intro size bl ij;obtain⟨c,t,he,hc⟩:=Kf9 10 n.natAbs [] (by omega) (by omega);have eF:=Kg0 10 n.natAbs [] (by simp);rw [<-Kgj h0] at he eF;have qJ:=Khv (eF c (by rw [he];simp));refine step size bl (Jgk n) s _ l ij ⟨c,t,he,by omega,qJ.1⟩ ?_ (Kmx h0 h1 hs) rfl (ih size [] (by simp));rw [he];intro e
  have:c=45:=by
   have:=congrArg List.head? e;simpa using this
  rw [this] at qJ;exact qJ.2.2.1 rfl
 | @one c s l hm hs _ ih=>
  intro size bl ij;have hn:=Khu hm;refine step size bl [c] s _ l ij ⟨c,[],rfl,hn.2.2.2,hn.1⟩ ?_ (Knh hm hs) rfl (ih size [] (by simp));intro e
  cases s with
  | nil=>simp at e
  | cons d s=>
   have:=(hs d rfl).2;simp at e;exact this e
 | @two c d s l hm _ ih=>
  intro size bl ij;have hn:=Khu hm;refine step size bl [c,d] s _ l ij ⟨c,[d],rfl,hn.2.2.2,hn.1⟩ ?_ (Knb hm) rfl (ih size [] (by simp));intro e;simp at e;obtain⟨rfl,rfl⟩:=e;exact absurd hm (by decide)
theorem Kib {s:List UInt8} {l:List Tq} (h:LX s l) (hs:s.length<=4096):∃l',Kdk (mkB s)=(l',0,0)/\l'.map Tk.q=l:=by
 unfold Kdk;rw [if_neg (by rw [Kd2];omega)];have:=Kny h (mkB s).size [] (by simp) ((mkB s).size+1) [] (by rw [Kd2];omega);simpa using this
structure St where
 pos:Nat
 bad:Bool
def tkZ:Tk:=⟨0,⟨#[]⟩,0,0⟩
def Kc7 (ts:List Tk) (st:St):Option Tk:=if st.bad=true then none else ts[st.pos]?
def Kc5 (ts:List Tk) (st:St) (s:ByteArray):Bool:=match Kc7 ts st with
 | none=>false
 | some t=>(t.kind == 3 || t.kind == 4) && t.text.toList == s.toList
def Kc6 (ts:List Tk) (st:St) (s:ByteArray):St:=if Kc5 ts st s=true then⟨st.pos+1,st.bad⟩ else st
def Kda (ts:List Tk) (st:St) (s:ByteArray):St:=if Kc5 ts st s=true then⟨st.pos+1,st.bad⟩ else⟨st.pos,true⟩
def Kdy (ts:List Tk) (st:St) (k:Int):Tk×St:=match Kc7 ts st with
 | none=>(tkZ,⟨st.pos,true⟩)
 | some t=>if t.kind=k then(t,⟨st.pos+1,st.bad⟩) else(tkZ,⟨st.pos,true⟩)
def Kdn (ts:List Tk) (st:St):ByteArray×St:=((Kdy ts st 1).1.text,(Kdy ts st 1).2)
def Kd7 (ts:List Tk) (st:St):List ByteArray->ByteArray×St
 | []=>(⟨#[]⟩,st)
 | s :: l=>if Kc5 ts st s=true then(s,⟨st.pos+1,st.bad⟩) else Kd7 ts st l
def Ke6 (ts:List Tk) (pos:Nat) (fin:Int):Int:=match ts[pos]? with
 | none=>fin
 | some t=>t.pos
def Kdx (k:Nat):List ByteArray:=
 if k=0 then [⟨#[124]⟩,⟨#[94]⟩] else if k=1 then [⟨#[38]⟩]
 else if k=2 then [⟨#[61]⟩,⟨#[60,62]⟩,⟨#[60]⟩,⟨#[60,61]⟩,⟨#[62]⟩,⟨#[62,61]⟩]
 else if k=3 then [⟨#[60,60]⟩,⟨#[62,62]⟩] else if k=4 then [⟨#[43]⟩,⟨#[45]⟩] else [⟨#[42]⟩,⟨#[47]⟩,⟨#[37]⟩]
def Kei (s:ByteArray):Nat->Int->Int
 | 0,_=>0
 | f+1,op=>if (Ja6 op).toList == s.toList then op else Kei s f (op+1)
def opF (s:ByteArray):Int:=Kei s 16 1
inductive NT where
 | expr
 | level (k:Nat)
 | loop (k:Nat) (l:Ex)
 | unary
 | factor
 | floop (x:Ex)
 | atom
def NT.rank:NT->Nat
 | expr=>10
 | level k=>9-k
 | loop _ _=>0
 | unary=>2
 | factor=>1
 | floop _=>0
 | atom=>0
def K3 (ts:List Tk):Nat->NT->St->Ex×St
 | 0,_,st=>(Ex.zero,st)
 | f+1,.expr,st=>if Kc5 ts (K3 ts f (.level 0) st).2 ⟨#[45,62]⟩=true then(.mk 7 0 ⟨#[]⟩ [(K3 ts f (.level 0) st).1,(K3 ts f .expr (Kc6 ts (K3 ts f (.level 0) st).2 ⟨#[45,62]⟩)).1],(K3 ts f .expr (Kc6 ts (K3 ts f (.level 0) st).2 ⟨#[45,62]⟩)).2) else K3 ts f (.level 0) st
 | f+1,.level k,st=>if k=6 then K3 ts f .unary st else K3 ts f (.loop k (K3 ts f (.level (k+1)) st).1) (K3 ts f (.level (k+1)) st).2
 | f+1,.loop k l,st=>if (Kd7 ts st (Kdx k)).1.size=0 then(l,st) else if k=2 then(.mk 5 (opF (Kd7 ts st (Kdx k)).1) ⟨#[]⟩ [l,(K3 ts f (.level (k+1)) (Kd7 ts st (Kdx k)).2).1],(K3 ts f (.level (k+1)) (Kd7 ts st (Kdx k)).2).2) else K3 ts f (.loop k (.mk 5 (opF (Kd7 ts st (Kdx k)).1) ⟨#[]⟩ [l,(K3 ts f (.level (k+1)) (Kd7 ts st (Kdx k)).2).1])) (K3 ts f (.level (k+1)) (Kd7 ts st (Kdx k)).2).2
 | f+1,.unary,st=>if Kc5 ts st ⟨#[45]⟩=true then(.mk 4 1 ⟨#[]⟩ [(K3 ts f .unary (Kc6 ts st ⟨#[45]⟩)).1],(K3 ts f .unary (Kc6 ts st ⟨#[45]⟩)).2) else if Kc5 ts st ⟨#[110,111,116]⟩=true then(.mk 4 2 ⟨#[]⟩ [(K3 ts f .unary (Kc6 ts st ⟨#[110,111,116]⟩)).1],(K3 ts f .unary (Kc6 ts st ⟨#[110,111,116]⟩)).2) else K3 ts f .factor st
 | f+1,.factor,st=>K3 ts f (.floop (K3 ts f .atom st).1) (K3 ts f .atom st).2
 | f+1,.floop x,st=>if Kc5 ts st ⟨#[119,104,101,110]⟩=true then K3 ts f (.floop (.mk 8 0 (Kdn ts (Kc6 ts st ⟨#[119,104,101,110]⟩)).1 [x])) (Kdn ts (Kc6 ts st ⟨#[119,104,101,110]⟩)).2 else if Kc5 ts st ⟨#[117,110,108,101,115,115]⟩=true then K3 ts f (.floop (.mk 9 0 (Kdn ts (Kc6 ts st ⟨#[117,110,108,101,115,115]⟩)).1 [x])) (Kdn ts (Kc6 ts st ⟨#[117,110,108,101,115,115]⟩)).2 else(x,st)
 | f+1,.atom,st=>
  if ((Kc7 ts st).getD tkZ).kind=2 then(.mk 1 (Kdy ts st 2).1.n ⟨#[]⟩ [],(Kdy ts st 2).2)
  else if Kc5 ts st ⟨#[116,114,117,101]⟩=true then(.mk 2 1 ⟨#[]⟩ [],Kc6 ts st ⟨#[116,114,117,101]⟩)
  else if Kc5 ts st ⟨#[102,97,108,115,101]⟩=true then(.mk 2 0 ⟨#[]⟩ [],Kc6 ts st ⟨#[102,97,108,115,101]⟩)
  else if Kc5 ts st ⟨#[40]⟩=true then((K3 ts f .expr (Kc6 ts st ⟨#[40]⟩)).1,Kda ts (K3 ts f .expr (Kc6 ts st ⟨#[40]⟩)).2 ⟨#[41]⟩)
  else if Kc5 ts st ⟨#[105,102]⟩=true then
   let c:=K3 ts f .expr (Kc6 ts st ⟨#[105,102]⟩)
   let a:=K3 ts f .expr (Kda ts c.2 ⟨#[116,104,101,110]⟩)
   let b:=K3 ts f .expr (Kda ts a.2 ⟨#[101,108,115,101]⟩)
   (.mk 6 0 ⟨#[]⟩ [c.1,a.1,b.1],b.2)
  else if Kc5 ts st ⟨#[109,101,114,103,101]⟩=true then
   let c:=Kdn ts (Kc6 ts st ⟨#[109,101,114,103,101]⟩)
   let a:=K3 ts f .factor c.2
   let b:=K3 ts f .factor a.2
   (.mk 10 0 c.1 [a.1,b.1],b.2)
  else(.mk 3 0 (Kdn ts st).1 [],(Kdn ts st).2)
theorem Ket {ts:List Tk} {st:St} {s:ByteArray} (h:Kc5 ts st s=true):st.pos<ts.length/\st.bad=false:=by
 unfold Kc5 Kc7 at h
 split at h
 ·simp at h
 ·rename_i t ht
  split at ht
  ·simp at ht
  ·rename_i hb;exact⟨(List.getElem?_eq_some_iff.1 ht).1,by simpa using hb⟩
def Keo (ts:List Tk) (a b:St):Prop:=a.pos<=b.pos/\(a.pos<=ts.length->b.pos<=ts.length)
theorem Keo.refl (ts:List Tk) (a:St):Keo ts a a:=⟨Nat.le_refl _,id⟩
theorem Keo.trans {ts:List Tk} {a b c:St} (h:Keo ts a b) (h':Keo ts b c):Keo ts a c:=⟨Nat.le_trans h.1 h'.1,fun x=>h'.2 (h.2 x)⟩
theorem Kdl (ts:List Tk) (st:St) (s:ByteArray):Keo ts st (Kc6 ts st s):=by
 unfold Kc6;split
 ·rename_i h;have:=Ket h;exact⟨by simp,fun _=>by simp;omega⟩
 ·exact Keo.refl _ _
theorem Kdc (ts:List Tk) (st:St) (s:ByteArray):Keo ts st (Kda ts st s):=by
 unfold Kda;split
 ·rename_i h;have:=Ket h;exact⟨by simp,fun _=>by simp;omega⟩
 ·exact⟨by simp,fun h=>h⟩
theorem Khc (ts:List Tk) (st:St) (k:Int):Keo ts st (Kdy ts st k).2:=by
 unfold Kdy;split
 ·exact⟨by simp,fun h=>h⟩
 ·rename_i t ht
  have:st.pos<ts.length:=by
   unfold Kc7 at ht;split at ht
   ·simp at ht
   ·exact(List.getElem?_eq_some_iff.1 ht).1
  split
  ·exact⟨by simp,fun _=>by simp;omega⟩
  ·exact⟨by simp,fun h=>h⟩
theorem Kdz (ts:List Tk) (st:St):Keo ts st (Kdn ts st).2:=Khc ts st 1
theorem Kg9 (ts:List Tk) (st:St):∀l,Keo ts st (Kd7 ts st l).2
 | []=>Keo.refl _ _
 | s :: l=>by
  unfold Kd7;split
  ·rename_i h;have:=Ket h;exact⟨by simp,fun _=>by simp;omega⟩
  ·exact Kg9 ts st l
theorem Ke3 (ts:List Tk):∀f nt st,Keo ts st (K3 ts f nt st).2:=by
 intro f
 induction f with
 | zero=>intro nt st;cases nt <;> exact Keo.refl _ _
 | succ f ih=>
  intro nt st
  cases nt with
  | expr=>
   rw [K3];split
   ·exact((ih _ _).trans (Kdl _ _ _)).trans (ih _ _)
   ·exact ih _ _
  | level k=>
   rw [K3];split
   ·exact ih _ _
   ·exact(ih _ _).trans (ih _ _)
  | loop k l=>
   rw [K3];split
   ·exact Keo.refl _ _
   ·split
    ·exact(Kg9 _ _ _).trans (ih _ _)
    ·exact((Kg9 _ _ _).trans (ih _ _)).trans (ih _ _)
  | unary=>
   rw [K3];split
   ·exact(Kdl _ _ _).trans (ih _ _)
   ·split
    ·exact(Kdl _ _ _).trans (ih _ _)
    ·exact ih _ _
  | factor=>rw [K3];exact(ih _ _).trans (ih _ _)
  | floop x=>
   rw [K3];split
   ·exact((Kdl _ _ _).trans (Kdz _ _)).trans (ih _ _)
   ·split
    ·exact((Kdl _ _ _).trans (Kdz _ _)).trans (ih _ _)
    ·exact Keo.refl _ _
  | atom=>
   rw [K3];split
   ·exact Khc _ _ _
   ·split
    ·exact Kdl _ _ _
    ·split
     ·exact Kdl _ _ _
     ·split
      ·exact((Kdl _ _ _).trans (ih _ _)).trans (Kdc _ _ _)
      ·split
       ·exact(((((Kdl _ _ _).trans (ih _ _)).trans (Kdc _ _ _)).trans (ih _ _)).trans (Kdc _ _ _)).trans (ih _ _)
       ·split
        ·exact(((Kdl _ _ _).trans (Kdz _ _)).trans (ih _ _)).trans (ih _ _)
        ·exact Kdz _ _
def Kec (ts:List Tk) (st:St):Va×St:=
 let s1:=Kda ts (Kdn ts st).2 ⟨#[58]⟩
 if Kc5 ts s1 ⟨#[98,111,111,108]⟩=true then(⟨(Kdn ts st).1,2,0,⟨#[]⟩⟩,Kc6 ts s1 ⟨#[98,111,111,108]⟩) else(⟨(Kdn ts st).1,1,0,⟨#[]⟩⟩,Kda ts s1 ⟨#[105,110,116]⟩)
def Ke4 (ts:List Tk):Nat->List Va->St->List Va×St
 | 0,l,st=>(l,st)
 | f+1,l,st=>if Kc5 ts st ⟨#[59]⟩=true then Ke4 ts f (l ++ [(Kec ts (Kc6 ts st ⟨#[59]⟩)).1]) (Kec ts (Kc6 ts st ⟨#[59]⟩)).2 else(l,st)
def Ker (ts:List Tk) (st:St):List Va×St:=
 let s1:=Kda ts st ⟨#[40]⟩
 if Kc5 ts s1 ⟨#[41]⟩=true then([],Kc6 ts s1 ⟨#[41]⟩)
 else
  let r:=Ke4 ts (ts.length+1) [(Kec ts s1).1] (Kec ts s1).2
  (r.1,Kda ts r.2 ⟨#[41]⟩)
def Kez (ts:List Tk) (st:St):Va×St:=
 let d:=Kec ts st
 if Kc5 ts d.2 ⟨#[119,104,101,110]⟩=true then
  let n:=Kdn ts (Kc6 ts d.2 ⟨#[119,104,101,110]⟩)
  ({d.1 with ck:=1,cn:=n.1},Kda ts n.2 ⟨#[59]⟩)
 else if Kc5 ts d.2 ⟨#[117,110,108,101,115,115]⟩=true then
  let n:=Kdn ts (Kc6 ts d.2 ⟨#[117,110,108,101,115,115]⟩)
  ({d.1 with ck:=2,cn:=n.1},Kda ts n.2 ⟨#[59]⟩)
 else(d.1,Kda ts d.2 ⟨#[59]⟩)
def Kfx (ts:List Tk) (minus:Bool) (st:St):Option (Ex×St):=
 if ((Kc7 ts st).getD tkZ).kind=2 then some (.mk 1 ((Kc7 ts st).getD tkZ).n ⟨#[]⟩ [],⟨st.pos+1,st.bad⟩)
 else if minus=true then none
 else if Kc5 ts st ⟨#[116,114,117,101]⟩=true then some (.mk 2 1 ⟨#[]⟩ [],Kc6 ts st ⟨#[116,114,117,101]⟩)
 else if Kc5 ts st ⟨#[102,97,108,115,101]⟩=true then some (.mk 2 0 ⟨#[]⟩ [],Kc6 ts st ⟨#[102,97,108,115,101]⟩)
 else none
def Kem (ts:List Tk) (st:St):Option (Ex×St):=
 match Kfx ts (Kc5 ts st ⟨#[45]⟩) (Kc6 ts st ⟨#[45]⟩) with
 | none=>none
 | some (x,s)=>if Kc5 ts s ⟨#[102,98,121]⟩=true then some (if Kc5 ts st ⟨#[45]⟩=true then .mk 4 1 ⟨#[]⟩ [x] else x,Kc6 ts s ⟨#[102,98,121]⟩) else none
def Kfc (ts:List Tk):Nat:=12 * ts.length+12
def Kdt (ts:List Tk) (st:St):Qe×St:=
 let n:=Kdn ts st
 let s1:=Kda ts n.2 ⟨#[61]⟩
 if Kc5 ts s1 ⟨#[112,114,101]⟩=true then
  let r:=K3 ts (Kfc ts) .expr (Kc6 ts s1 ⟨#[112,114,101]⟩)
  (⟨n.1,2,Ex.zero,r.1⟩,Kda ts r.2 ⟨#[59]⟩)
 else match Kem ts s1 with
  | some (x,s2)=>
   let r:=K3 ts (Kfc ts) .expr s2
   (⟨n.1,1,x,r.1⟩,Kda ts r.2 ⟨#[59]⟩)
  | none=>
   let r:=K3 ts (Kfc ts) .expr s1
   (⟨n.1,0,Ex.zero,r.1⟩,Kda ts r.2 ⟨#[59]⟩)
def Kfj (ts:List Tk):Nat->List Va->St->List Va×St
 | 0,l,st=>(l,st)
 | f+1,l,st=>if st.bad=true then(l,st) else if Kc5 ts st ⟨#[108,101,116]⟩=true then(l,st) else Kfj ts f (l ++ [(Kez ts st).1]) (Kez ts st).2
def Kew (ts:List Tk):Pr×St:=
 let n:=Kdn ts (Kda ts ⟨0,false⟩ ⟨#[110,111,100,101]⟩)
 let i:=Ker ts n.2
 let o:=Ker ts (Kda ts i.2 ⟨#[114,101,116,117,114,110,115]⟩)
 let s1:=Kda ts o.2 ⟨#[59]⟩
 if Kc5 ts s1 ⟨#[118,97,114]⟩=true then
  let v:=Kez ts (Kc6 ts s1 ⟨#[118,97,114]⟩)
  let r:=Kfj ts (ts.length+1) [v.1] v.2
  (⟨n.1,i.1,o.1,r.1,[]⟩,Kda ts r.2 ⟨#[108,101,116]⟩)
 else(⟨n.1,i.1,o.1,[],[]⟩,Kda ts s1 ⟨#[108,101,116]⟩)
def Kd8 (ts:List Tk) (fin:Int):Nat->List Qe->St->List Qe×Int×Int×St
 | 0,l,st=>(l,0,0,st)
 | f+1,l,st=>if st.bad=true then(l,0,0,st) else if Kc5 ts st ⟨#[116,101,108]⟩=true then(l,0,0,Kc6 ts st ⟨#[116,101,108]⟩)
  else if (Kdt ts st).2.bad=true then(l,0,0,(Kdt ts st).2)
  else if (Kdt ts st).1.e.right≠0 then(l,(Kdt ts st).1.e.right,Ke6 ts st.pos fin,(Kdt ts st).2)
  else Kd8 ts fin f (l ++ [(Kdt ts st).1]) (Kdt ts st).2
def prZ:Pr:=⟨⟨#[]⟩,[],[],[],[]⟩
def Kdm (s:ByteArray):Pr×Int×Int:=
 if (Kdk s).2.1≠0 then(prZ,(Kdk s).2.1,(Kdk s).2.2)
 else
  let ts:=(Kdk s).1
  let h:=Kew ts
  let q:=Kd8 ts s.size (ts.length+1) [] h.2
  if q.2.1≠0 then(prZ,q.2.1,q.2.2.1)
  else if q.2.2.2.bad=true\/q.2.2.2.pos<ts.length then(prZ,16,Ke6 ts q.2.2.2.pos s.size)
  else({h.1 with eqs:=q.1},0,0)
end Go.Proofs.YtdgjplldlfeolaaGreatDoor
namespace Go.Proofs.YtdgjplldlfeolaaGreatDoor
open Go.RowKit Go.Sort
structure Kkz (w:World) (b off:Nat) (t:Tk):Prop where
 c0:w.cell? ⟨b,off,none⟩=some (.int .i64 t.kind)
 c1:w.cell? ⟨b,off+1,none⟩=some (.string t.text)
 c2:w.cell? ⟨b,off+2,none⟩=some (.int .i32 t.n)
 c3:w.cell? ⟨b,off+3,none⟩=some (.int .i64 t.pos)
def tkV (t:Tk):Value:= .agg #[.int .i64 t.kind,.string t.text,.int .i32 t.n,.int .i64 t.pos]
def Kg5 (B:Nat) (w:World) (l:List Tk) (A:Option Addr) (cap:Nat):Prop:=
 l.length<=cap/\cap<=maxLen/\(0<l.length->∃b off,A=some ⟨b,off,none⟩/\b<B/\∀k t,l[k]?=some t->Kkz w b (off+k * 4) t)
theorem Kg5.get {B:Nat} {w:World} {l:List Tk} {A:Option Addr} {cap k:Nat} {t:Tk} (h:Kg5 B w l A cap) (hk:l[k]?=some t):∃b off,A=some ⟨b,off,none⟩/\b<B/\b<w.heap.size/\Kkz w b (off+k * 4) t:=by
 have am:k<l.length:=(List.getElem?_eq_some_iff.1 hk).1;obtain⟨b,off,hA,hB,hr⟩:=h.2.2 (by omega);exact⟨b,off,hA,hB,block_lt_of_cell (hr k t hk).c0,hr k t hk⟩
def Kfu (B:Nat) (W:World) (P:World->Prop):Prop:=∀W',J6 (fun b=>b=B) W W'->P W'
theorem Kfu.here {B:Nat} {W:World} {P:World->Prop} (h:Kfu B W P):P W:=h W (J6.refl W)
theorem Kfu.on {B:Nat} {W W':World} {P:World->Prop} (h:Kfu B W P) (hk:J6 (fun b=>b=B) W W'):Kfu B W' P:=fun W2 h2=>h W2 (hk.trans' h2)
theorem Kfu.bel {B:Nat} {W W':World} {P:World->Prop} (h:Kfu B W P) (hb:Below W.heap.size W W'):Kfu B W' P:=h.on (J6.bel hb)
theorem Kfu.imp {B:Nat} {W:World} {P Q:World->Prop} (h:Kfu B W P) (hpq:∀W',P W'->Q W'):Kfu B W Q:=fun W' hk=>hpq _ (h W' hk)
theorem Kfu.both {B:Nat} {W:World} {P Q:World->Prop} (h:Kfu B W P) (h':Kfu B W Q):Kfu B W fun W'=>P W'/\Q W':=fun W' hk=>⟨h W' hk,h' W' hk⟩
theorem Kgw {B:Nat} {W:World} {l:List Tk} {A:Option Addr} {cap:Nat} (h:Kg5 B W l A cap):Kfu B W fun W'=>Kg5 B W' l A cap:=fun W' hk=>⟨h.1,h.2.1,fun hl=>by
 obtain⟨b,off,hA,hB,hr⟩:=h.2.2 hl;have aS:¬b=B:=by omega
 exact⟨b,off,hA,hB,fun k t ht=>⟨hk.cell aS (hr k t ht).c0,hk.cell aS (hr k t ht).c1,hk.cell aS (hr k t ht).c2,hk.cell aS (hr k t ht).c3⟩⟩⟩
structure X2 (B:Nat) (ts:List Tk) (A:Option Addr) (cap:Nat) (W:World) (st:St):Prop where
 c0:W.cell? ⟨B,0,none⟩=some (.slice A ts.length cap)
 c1:W.cell? ⟨B,1,none⟩=some (.int .i64 st.pos)
 c2:W.cell? ⟨B,2,none⟩=some (.bool st.bad)
 f1:W.frozen? ⟨B,1,none⟩=false
 f2:W.frozen? ⟨B,2,none⟩=false
 f0:W.frozen? ⟨B,0,none⟩=false
 toks:Kg5 B W ts A cap
 le:st.pos<=ts.length
theorem X2.lt {B:Nat} {ts:List Tk} {A:Option Addr} {cap:Nat} {W:World} {st:St} (h:X2 B ts A cap W st):B<W.heap.size:=block_lt_of_cell h.c0
theorem X2.later {B:Nat} {ts:List Tk} {A:Option Addr} {cap:Nat} {W W':World} {st:St} (h:X2 B ts A cap W st) (hb:Below W.heap.size W W'):X2 B ts A cap W' st:=
 ⟨Ja hb h.c0,Ja hb h.c1,Ja hb h.c2,(Jf hb B 1 h.lt).trans h.f1,(Jf hb B 2 h.lt).trans h.f2,(Jf hb B 0 h.lt).trans h.f0,Kgw h.toks W' (J6.bel hb),h.le⟩
theorem X2.pos {B:Nat} {ts:List Tk} {A:Option Addr} {cap:Nat} {W:World} {st:St} (h:X2 B ts A cap W st) (n:Nat) (hn:n<=ts.length):X2 B ts A cap (W.setCell ⟨B,1,none⟩ (.int .i64 n)) ⟨n,st.bad⟩:=
 ⟨(J5 _ _ _ _ _ (by omega)).trans h.c0,World.cell?_setCell_same _ _ _ h.c1,(J5 _ _ _ _ _ (by omega)).trans h.c2,(World.frozen?_setCell ..).trans h.f1,(World.frozen?_setCell ..).trans h.f2,(World.frozen?_setCell ..).trans h.f0,Kgw h.toks _ ((J6.refl (S:=fun b=>b=B) W).setCell (b:=B) rfl _ _),hn⟩
theorem X2.fall {B:Nat} {ts:List Tk} {A:Option Addr} {cap:Nat} {W:World} {st:St} (h:X2 B ts A cap W st) (v:Bool):X2 B ts A cap (W.setCell ⟨B,2,none⟩ (.bool v)) ⟨st.pos,v⟩:=
 ⟨(J5 _ _ _ _ _ (by omega)).trans h.c0,(J5 _ _ _ _ _ (by omega)).trans h.c1,World.cell?_setCell_same _ _ _ h.c2,(World.frozen?_setCell ..).trans h.f1,(World.frozen?_setCell ..).trans h.f2,(World.frozen?_setCell ..).trans h.f0,Kgw h.toks _ ((J6.refl (S:=fun b=>b=B) W).setCell (b:=B) rfl _ _),h.le⟩
theorem Off.kept {base B:Nat} {W W':World} {P:World->Prop} (h:Off base none W P) (hB:B<base) (hk:J6 (fun b=>b=B) W W'):Off base none W' P:=
 h.grow (fun k h1 h2 _=>hk.block k h2 (by show ¬k=B;omega)) hk.size (.inl rfl)
theorem Kex (base:Nat) (W:World) {P:World->Prop} (h:∀V,P V):Off base none W P:=fun V _=>h V
theorem Ke2 (V:World) {k n:Int} {nm:ByteArray} {A:Option Addr} {cap:Nat} (hc:cap<=maxLen):Jt V (.mk k n nm []) A cap:=by
 rw [Jao];exact⟨Nat.zero_le _,hc,fun h=>by simp [Ex.sub] at h⟩
theorem Kh2 {base g:Nat} {W:World} {k n:Int} {nm:ByteArray} {l:List Ex} {ls:List (Option Addr×Nat)} (hg:base<=g) (am:g<W.heap.size) (hl:ls.length=l.length) (hn:l.length<=100)
  (hc:∀j u,(Ya l ls)[j]?=some u->W.cell? ⟨g,j,none⟩=some u) (hs:∀(j:Nat) (y:Ex) (a:Option Addr×Nat),l[j]?=some y->ls[j]?=some a->Off base none W (fun V=>Jt V y a.1 a.2)) :
  Off base none W (fun V=>Jt V (.mk k n nm l) (some ⟨g,0,none⟩) l.length):=fun w' jC=>by
 show Jt w' _ _ _;rw [Jao];refine⟨Nat.le_refl _,by unfold maxLen;omega,fun _=>⟨g,0,rfl,Xv.of_cells _ ls 0 hl (fun j u hj=>?_) fun j y a hy ha=>hs j y a hy ha w' jC⟩⟩;rw [Nat.zero_add];exact Jr (jC g hg am (by simp)) (hc j u hj)
theorem Klc {base g:Nat} {W:World} {k n:Int} {nm:ByteArray} {x:Ex} {a:Option Addr} {c:Nat} (hg:base<=g) (am:g<W.heap.size)
  (hc:∀j u,(exC x (a,c))[j]?=some u->W.cell? ⟨g,j,none⟩=some u) (h:Off base none W (fun V=>Jt V x a c)):Off base none W (fun V=>Jt V (.mk k n nm [x]) (some ⟨g,0,none⟩) 1):=
 Kh2 (l:=[x]) (ls:=[(a,c)]) hg am rfl (by simp) (fun j u hj=>hc j u (by simpa [Ya] using hj)) fun j y b hy hb=>by
  match j,hy,hb with
  | 0,hy,hb=>simp at hy hb;subst hy hb;exact h
theorem Kk6 {base g:Nat} {W:World} {k n:Int} {nm:ByteArray} {x y:Ex} {a b:Option Addr} {c d:Nat} (hg:base<=g) (am:g<W.heap.size)
  (hc:∀j u,(exC x (a,c) ++ exC y (b,d))[j]?=some u->W.cell? ⟨g,j,none⟩=some u) (h:Off base none W (fun V=>Jt V x a c)) (h':Off base none W (fun V=>Jt V y b d)):Off base none W (fun V=>Jt V (.mk k n nm [x,y]) (some ⟨g,0,none⟩) 2):=
 Kh2 (l:=[x,y]) (ls:=[(a,c),(b,d)]) hg am rfl (by simp) (fun j u hj=>hc j u (by simpa [Ya] using hj)) fun j z e hz he=>by
  match j,hz,he with
  | 0,hz,he=>simp at hz he;subst hz he;exact h
  | 1,hz,he=>simp at hz he;subst hz he;exact h'
theorem Klv {base g:Nat} {W:World} {k n:Int} {nm:ByteArray} {x y z:Ex} {a b a3:Option Addr} {c d c3:Nat} (hg:base<=g) (am:g<W.heap.size)
  (hc:∀j u,(exC x (a,c) ++ (exC y (b,d) ++ exC z (a3,c3)))[j]?=some u->W.cell? ⟨g,j,none⟩=some u) (h:Off base none W (fun V=>Jt V x a c)) (h':Off base none W (fun V=>Jt V y b d)) (h3:Off base none W (fun V=>Jt V z a3 c3)):Off base none W (fun V=>Jt V (.mk k n nm [x,y,z]) (some ⟨g,0,none⟩) 3):=
 Kh2 (l:=[x,y,z]) (ls:=[(a,c),(b,d),(a3,c3)]) hg am rfl (by simp) (fun j u hj=>hc j u (by simpa [Ya] using hj)) fun j q e hq he=>by
  match j,hq,he with
  | 0,hq,he=>simp at hq he;subst hq he;exact h
  | 1,hq,he=>simp at hq he;subst hq he;exact h'
  | 2,hq,he=>simp at hq he;subst hq he;exact h3
def Ke9 (base:Nat) (W:World) (v:Value) (e:Ex):Prop:=∃A cap,v=exV e A cap/\Off base none W (fun V=>Jt V e A cap)
theorem Ke9.less {base b2:Nat} {W:World} {v:Value} {e:Ex} (h:Ke9 b2 W v e) (hb:base<=b2):Ke9 base W v e:=by
 obtain⟨A,cap,hv,h⟩:=h;exact⟨A,cap,hv,h.less hb⟩
theorem Ke9.kept {base B:Nat} {W W':World} {v:Value} {e:Ex} (h:Ke9 base W v e) (hB:B<base) (hk:J6 (fun b=>b=B) W W'):Ke9 base W' v e:=by
 obtain⟨A,cap,hv,h⟩:=h;exact⟨A,cap,hv,h.kept hB hk⟩
def Kdq (B:Nat) (ts:List Tk) (A:Option Addr) (cap:Nat) (W:World) (x:Ex×St) (r:Ending) (W':World):Prop:=
 (∃v,r = .returned v/\Ke9 W.heap.size W' v x.1)/\X2 B ts A cap W' x.2/\J6 (fun b=>b=B) W W'
theorem J6.fresh {S:Nat->Prop} {W W':World} (h:J6 S W W') {c:Nat} (hc:W.heap.size<=c) (o:Nat) (u:Value):J6 S W (W'.setCell ⟨c,o,none⟩ u):=
 ⟨h.os,h.tape,h.output,by rw [show(W'.setCell ⟨c,o,none⟩ u).heap.size=W'.heap.size from by simp];exact h.size,fun k hk hs=>by
  rw [heap_setCell_other _ _ _ _ (by show k≠c;omega)];exact h.block k hk hs⟩
theorem J6.fresh4 {S:Nat->Prop} {W W':World} (h:J6 S W W') {c:Nat} (hc:W.heap.size<=c) (v0 v1 v2 v3:Value):J6 S W ((((W'.setCell ⟨c,0,none⟩ v0).setCell ⟨c,1,none⟩ v1).setCell ⟨c,2,none⟩ v2).setCell ⟨c,3,none⟩ v3):=
 (((h.fresh hc _ _).fresh hc _ _).fresh hc _ _).fresh hc _ _
theorem X2.beyond {B:Nat} {ts:List Tk} {A:Option Addr} {cap:Nat} {W:World} {st:St} (h:X2 B ts A cap W st) {c:Nat} (hc:B<c) (o:Nat) (u:Value):X2 B ts A cap (W.setCell ⟨c,o,none⟩ u) st:=by
 have ne:∀b j,b<=B->(W.setCell ⟨c,o,none⟩ u).cell? ⟨b,j,none⟩=W.cell? ⟨b,j,none⟩:=fun b j hb=>Qm _ _ _ _ _ _ (by omega);refine⟨(ne _ _ (Nat.le_refl _)).trans h.c0,(ne _ _ (Nat.le_refl _)).trans h.c1,(ne _ _ (Nat.le_refl _)).trans h.c2,(World.frozen?_setCell ..).trans h.f1,(World.frozen?_setCell ..).trans h.f2,(World.frozen?_setCell ..).trans h.f0,⟨h.toks.1,h.toks.2.1,fun hl=>?_⟩,h.le⟩;obtain⟨b,off,hA,hB,hr⟩:=h.toks.2.2 hl;refine⟨b,off,hA,hB,fun k t ht=>⟨?_,?_,?_,?_⟩⟩ <;> rw [ne _ _ (by omega)]
 ·exact(hr k t ht).c0
 ·exact(hr k t ht).c1
 ·exact(hr k t ht).c2
 ·exact(hr k t ht).c3
theorem X2.beyond4 {B:Nat} {ts:List Tk} {A:Option Addr} {cap:Nat} {W:World} {st:St} (h:X2 B ts A cap W st) {c:Nat} (hc:B<c) (v0 v1 v2 v3:Value):X2 B ts A cap ((((W.setCell ⟨c,0,none⟩ v0).setCell ⟨c,1,none⟩ v1).setCell ⟨c,2,none⟩ v2).setCell ⟨c,3,none⟩ v3) st:=
 (((h.beyond hc _ _).beyond hc _ _).beyond hc _ _).beyond hc _ _
theorem X2.alloc {B:Nat} {ts:List Tk} {A:Option Addr} {cap:Nat} {W:World} {st:St} (h:X2 B ts A cap W st) (o:Obj):X2 B ts A cap (W.alloc o) st:=h.later (Jc (Below.refl _ _) o)
theorem X2.drew {B:Nat} {ts:List Tk} {A:Option Addr} {cap:Nat} {W:World} {st:St} (h:X2 B ts A cap W st):X2 B ts A cap W.drew st:=h.later (Jh (Below.refl _ _))
theorem J6.alloc {S:Nat->Prop} {W W':World} (h:J6 S W W') (o:Obj):J6 S W (W'.alloc o):=h.trans' (J6.bel (Jc (Below.refl _ _) o))
theorem J6.drew {S:Nat->Prop} {W W':World} (h:J6 S W W'):J6 S W W'.drew:=h.trans' (J6.bel (Jh (Below.refl _ _)))
theorem J6.then {S:Nat->Prop} {W W1 W2:World} (h:J6 S W W1) (hb:Below W1.heap.size W1 W2):J6 S W W2:=h.trans' (J6.bel hb)
theorem Ke7 {m:Nat} {w W:World} {b:Nat} (v0 v1 v2 v3:Value) (h:Below m w W) (hb:m<=b):Below m w ((((W.setCell ⟨b,0,none⟩ v0).setCell ⟨b,1,none⟩ v1).setCell ⟨b,2,none⟩ v2).setCell ⟨b,3,none⟩ v3):=(Below.setCell (Below.setCell (Below.setCell (Below.setCell h hb _) hb _) hb _) hb _)
theorem Kej {B:Nat} {ts:List Tk} {A:Option Addr} {cap:Nat} {st:St} {W:World} (h:X2 B ts A cap W st) :
  Calls Tryz.prog 85 #[.pointer (some ⟨B,0,none⟩)] W fun r w'=>r = .returned (.tuple #[tkV ((Kc7 ts st).getD tkZ),.bool (Kc7 ts st).isSome])/\Below W.heap.size W w':=by
 obtain⟨p,bad⟩:=st;have cm:=h.lt;obtain⟨h0,h1,h2,-,-,-,ht,nn⟩:=h;dsimp only at h1 h2 nn;have ak:=ht.1;have dm:=ht.2.1;unfold maxLen at dm
 cases bad
 ·by_cases hp:p<ts.length
  ·have hx:ts[p]?=some ts[p]:=List.getElem?_eq_getElem hp;generalize ts[p]=t at hx;have hv:Kc7 ts ⟨p,false⟩=some t:=by simp [Kc7,hx]
   rw [hv];obtain⟨b,off,rfl,hbB,ij,d0,d1,d2,d3⟩:=ht.get hx;have hd:decide ((ts.length:Int)<=(p:Int))=false:=by simp;omega
   have hpi:(p:Int)<(ts.length:Int):=by omega
   clear ht hx hv
   go_enter Tryz.func85,Tryz.ntmps85
   go_wp2_with fail
   go_quiet (fail)
   go_wp2_with fail
   go_region_law (fail)
   all_goals
    go_wp2_with fail
    refine bodyPost_ret (v:= .tuple #[tkV t,.bool true]) (by simp [results,Tryz.results85,go_sem,tkV, *]) rfl ⟨rfl,?_⟩;refine Ke7 _ _ _ _ ?_ (Nat.le_refl _);exact J8 (Jc (Below.refl _ _) _) _
  ·have hv:Kc7 ts ⟨p,false⟩=none:=by simp [Kc7];omega
   rw [hv];have hd:decide ((ts.length:Int)<=(p:Int))=true:=by simp;omega
   clear ht hv
   go_enter Tryz.func85,Tryz.ntmps85
   go_wp2_with fail
   go_quiet (fail)
   go_wp2_with fail
   refine bodyPost_ret (v:= .tuple #[tkV tkZ,.bool false]) (by simp [results,Tryz.results85,go_sem,tkV,tkZ, *]) rfl ⟨rfl,?_⟩;refine Ke7 _ _ _ _ ?_ (Nat.le_refl _)
   first|exact J8 (Jc (Below.refl _ _) _) _|exact Jh (Jc (Below.refl _ _) _)|exact Jc (Below.refl _ _) _
 ·have hv:Kc7 ts ⟨p,true⟩=none:=by simp [Kc7]
  rw [hv];clear ht hv
  go_enter Tryz.func85,Tryz.ntmps85
  go_wp2_with fail
  go_quiet (fail)
  go_wp2_with fail
  refine bodyPost_ret (v:= .tuple #[tkV tkZ,.bool false]) (by simp [results,Tryz.results85,go_sem,tkV,tkZ, *]) rfl ⟨rfl,?_⟩;refine Ke7 _ _ _ _ ?_ (Nat.le_refl _)
  first|exact J8 (Jc (Below.refl _ _) _) _|exact Jh (Jc (Below.refl _ _) _)|exact Jc (Below.refl _ _) _
theorem Kig {B:Nat} {ts:List Tk} {A:Option Addr} {cap:Nat} {st:St} {W:World} (h:X2 B ts A cap W st) (s:ByteArray) :
  Calls Tryz.prog 41 #[.pointer (some ⟨B,0,none⟩),.string s] W fun r w'=>r = .returned (.bool (Kc5 ts st s))/\Below W.heap.size W w':=by
 have qU:=Kej h
 have hv:Kc5 ts st s=((Kc7 ts st).isSome && (((((Kc7 ts st).getD tkZ).kind == 3) || (((Kc7 ts st).getD tkZ).kind == 4)) && ((Kc7 ts st).getD tkZ).text.toList == s.toList)):=by
  unfold Kc5
  cases Kc7 ts st <;> simp
 generalize Kc5 ts st s=V at hv ⊢;generalize (Kc7 ts st).getD tkZ=t at qU hv;generalize (Kc7 ts st).isSome=o at qU hv;obtain⟨k,tx,n,p⟩:=t;unfold tkV at qU;dsimp only at hv qU;clear h
 cases o
 ·have HV:=Lib.hid hv;clear hv
  go_enter Tryz.func41,Tryz.ntmps41
  go_wp2_with (go_at_call 85;go_loud (refine qU.mono ?_;rintro r w1 ⟨rfl,ac⟩;have af:=ac.size))
  go_ret;exact⟨Jk HV.out.symm,Jc ac _⟩
 ·cases h3:(k == 3)
  ·cases h4:(k == 4)
   ·rw [h3,h4] at hv;have HV:=Lib.hid hv;clear hv
    go_enter Tryz.func41,Tryz.ntmps41
    go_wp2_with (go_at_call 85;go_loud (refine qU.mono ?_;rintro r w1 ⟨rfl,ac⟩;have af:=ac.size))
    go_ret;exact⟨Jk HV.out.symm,Jc ac _⟩
   ·cases h5:(tx.toList == s.toList) <;> rw [h3,h4,h5] at hv <;>
    ·have HV:=Lib.hid hv;clear hv
     go_enter Tryz.func41,Tryz.ntmps41
     go_wp2_with (go_at_call 85;go_loud (refine qU.mono ?_;rintro r w1 ⟨rfl,ac⟩;have af:=ac.size))
     go_ret;exact⟨Jk HV.out.symm,Jc ac _⟩
  ·cases h5:(tx.toList == s.toList) <;> rw [h3,h5] at hv <;>
   ·have HV:=Lib.hid hv;clear hv
    go_enter Tryz.func41,Tryz.ntmps41
    go_wp2_with (go_at_call 85;go_loud (refine qU.mono ?_;rintro r w1 ⟨rfl,ac⟩;have af:=ac.size))
    go_ret;exact⟨Jk HV.out.symm,Jc ac _⟩
abbrev Keu (B:Nat) (ts:List Tk) (A:Option Addr) (cap:Nat) (W:World) (v:Value) (st:St) (r:Ending) (W':World):Prop:=r = .returned v/\X2 B ts A cap W' st/\J6 (fun b=>b=B) W W'
theorem Knj {B:Nat} {W W1:World} (h:Below W.heap.size W W1) (o:Nat) (u:Value):J6 (fun b=>b=B) W (W1.setCell ⟨B,o,none⟩ u):=(J6.bel (S:=fun b=>b=B) h).setCell (b:=B) rfl o u
theorem Kfh {B:Nat} {ts:List Tk} {A:Option Addr} {cap:Nat} {st:St} {W:World} (h:X2 B ts A cap W st) (s:ByteArray) (ai:ts.length<=100000) :
  Calls Tryz.prog 18 #[.pointer (some ⟨B,0,none⟩),.string s] W (Keu B ts A cap W (.bool (Kc5 ts st s)) (Kc6 ts st s)):=by
 have hse:=Kig h s;have cm:=h.lt;have ak:=h.c1;have db:=h.f1;have nn:=h.le;have HP:=Lib.hid h;have hv:Kc6 ts st s=if Kc5 ts st s=true then⟨st.pos+1,st.bad⟩ else st:=rfl;have am:=fun e:Kc5 ts st s=true=>(Ket e).1;generalize Kc6 ts st s=V at hv ⊢;generalize Kc5 ts st s=o at hse hv am ⊢;clear h
 cases o
 ·rw [if_neg (by simp)] at hv;have HV:=Lib.hid hv;clear hv am
  go_enter Tryz.func18,Tryz.ntmps18
  go_wp2_with (go_at_call 41;go_loud (refine hse.mono ?_;rintro r w1 ⟨rfl,ac⟩))
  go_ret;rw [HV.out];exact⟨rfl,HP.out.later ac,J6.bel ac⟩
 ·rw [if_pos rfl] at hv;have hp:=am rfl;have HV:=Lib.hid hv;clear hv am
  go_enter Tryz.func18,Tryz.ntmps18
  go_wp2_with (go_at_call 41;go_loud (refine hse.mono ?_;rintro r w1 ⟨rfl,ac⟩;have dm:=Ja ac ak;have gO:=(Jf ac B 1 cm).trans db;have cF:=Nat.lt_of_lt_of_le cm ac.size))
  go_ret;rw [HV.out];exact⟨rfl,(HP.out.later ac).pos _ hp,Knj ac _ _⟩
theorem Koc {B:Nat} {ts:List Tk} {A:Option Addr} {cap:Nat} {st:St} {W:World} (h:X2 B ts A cap W st) (s:ByteArray) (ai:ts.length<=100000) :
  Calls Tryz.prog 37 #[.pointer (some ⟨B,0,none⟩),.string s] W (Keu B ts A cap W (.tuple #[]) (Kda ts st s)):=by
 have vh:=Kfh h s ai
 have hv:Kda ts st s=if Kc5 ts st s=true then Kc6 ts st s else⟨(Kc6 ts st s).pos,true⟩:=by
  unfold Kda Kc6
  cases Kc5 ts st s <;> rfl
 generalize Kda ts st s=V at hv ⊢;generalize Kc6 ts st s=st1 at vh hv;generalize Kc5 ts st s=o at vh hv;have cm:=h.lt;clear h
 cases o
 ·rw [if_neg (by simp)] at hv;have HV:=Lib.hid hv;clear hv
  go_enter Tryz.func37,Tryz.ntmps37
  go_wp2_with (go_at_call 18;go_loud (refine vh.mono ?_;rintro r w1 ⟨rfl,ii,cD⟩;have dm:=ii.c2;have gO:=ii.f2;have cF:=ii.lt))
  refine bodyPost_ret (v:= .tuple #[]) (by simp [results,Tryz.results37,go_sem, *]) rfl ?_;rw [HV.out];exact⟨rfl,ii.fall _,cD.setCell rfl _ _⟩
 ·rw [if_pos rfl] at hv;have HV:=Lib.hid hv;clear hv
  go_enter Tryz.func37,Tryz.ntmps37
  go_wp2_with (go_at_call 18;go_loud (refine vh.mono ?_;rintro r w1 ⟨rfl,ii,cD⟩))
  refine bodyPost_ret (v:= .tuple #[]) (by simp [results,Tryz.results37,go_sem, *]) rfl ?_;rw [HV.out];exact⟨rfl,ii,cD⟩
end Go.Proofs.YtdgjplldlfeolaaGreatDoor
