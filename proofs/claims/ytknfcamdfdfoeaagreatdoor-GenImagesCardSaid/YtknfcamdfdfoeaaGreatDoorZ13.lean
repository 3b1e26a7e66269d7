/- Lemmas. -/
import Derived.Test.YtknfcamdfdfoeaaGreatDoorMac
import Derived.Test.YtknfcamdfdfoeaaGreatDoorZ12
import Derived.Test.YtknfcamdfdfoeaaGreatDoorZ08
import Derived.Test.YtknfcamdfdfoeaaGreatDoorZ09
import Derived.Test.YtknfcamdfdfoeaaGreatDoorZ03
import Derived.Test.YtknfcamdfdfoeaaGreatDoorZ07
set_option linter.unusedVariables false
set_option linter.unusedSimpArgs false
set_option maxRecDepth 100000
set_option maxHeartbeats 64000000
namespace Go.Proofs.YtknfcamdfdfoeaaGreatDoor
open Go.RowKit Go.Sort
def ofR (L:List Va) (q:Qe):List ByteArray:=match Xb L q.name with|some v=>Yw (Kx q.e) v.cn|none=>Kx q.e
theorem Jmt (e:Ex):(Kx e).length<=e.size:=by
 unfold Kx
 split
 ·exact Ul
 ·have:=(Ex.named_len e []).2;simpa using this
theorem Jo0 (p:Pr) (a:PrA) (i:Nat) (q:Qe) (w:World) (hp:Kr w p a) (vM:p.eqs[i]?=some q) (hz:q.e.size<=1000000)
  (n1:p.ins.length<=1000000) (n2:p.outs.length<=1000000) (n3:p.locals.length<=1000000) (n4:p.eqs.length<=1000000) :
  Calls Tryz.prog 55 #[prV p a,.int .i64 i] w fun r w'=>(∃v,r = .returned v/\w'.ownsRow w.heap.size 9 1 v (ofR (Je p) q).length ((ofR (Je p) q).map .string))/\Below w.heap.size w w':=by
 have aJ:=fun W h=>Z3 p a W (hp.later h) n1 n2 n3;have ap:=fun A cap W h=>Xa (Je p) A cap q.name W h;have kC:i<p.eqs.length:=(Nh vM).1;have bT:=hp.eqs;have hv:ofR (Je p) q=ofR (Je p) q:=rfl;rw (occs:= .pos [2]) [ofR] at hv;have jV:=Jmt q.e;obtain⟨A1,c1,A2,c2,A3,c3,A4,c4⟩:=a;unfold prV at *;dsimp only at *;obtain⟨b,off,E1,k1,E2,k2,rfl,aH,⟨g0,g1,g2,g3,g4,g5,g6,g7,g8,g9,s1,s2⟩⟩:=bT.get vM;have cG:=bT.len;unfold maxLen at cG;obtain⟨fT,fU⟩:=cG;have fP:=fun W h=>Joq q.e E2 k2 W (s2.later h) hz;clear hp vM g1 g2 g3 g4 g5 s1;have jU:b<w.heap.size+1:=Ua;generalize hL:Je p=L at *;clear hL;generalize hN:Kx q.e=nd at *;clear hN;unfold exV at *
 rcases Y5 L q.name with ⟨cL,eB⟩|⟨k,v,cL,hx,eB⟩
 ·rw [eB] at hv;rw [cL] at ap;dsimp only at hv;clear cL eB;have HV:=Nf hv;clear hv
  go_enter Tryz.func55,Tryz.ntmps55
  go_wp2_with (first|(go_at_call 26;refine(aJ _ Jb).mono ?_;rintro r wb ⟨⟨A,cap,rfl,ae⟩,bG⟩;have el:=Jg bG;have dH:=bG.size;(try simp at dH);have cA:=lt0 w wb;have oa:b<wb.heap.size:=Ua;have cR:=Ju.of_own ae;have ng:=cR.len;unfold maxLen at ng;obtain⟨vN,vO⟩:=ng;clear ae)|(go_at_call 87;refine(fP _ Jb).mono ?_;rintro r wn ⟨⟨vn,rfl,ay⟩,dI⟩;obtain⟨An,cn,rfl,eR,eu⟩:=Jv ay;have qJ:=Jg dI;have qp:=dI.size;(try simp at qp);have xa:=lt0 w wn;have qq:b<wn.heap.size:=Ua)|(go_at_call 49;refine(ap _ _ _ (cR.later Jb)).mono ?_;rintro r wf ⟨rfl,bZ⟩;have hcf:=Jg bZ;have eq:=bZ.size;(try simp at eq);have rU:=lt0 w wf;have vP:b<wf.heap.size:=Ua)|(go_at_call 54;go_loud (refine(Yu nd _ _ v.cn _ ((Qf.of_own ay).later Jb)).mono ?_;rw [HH.out];rintro r wh ⟨rfl,dX⟩;have fJ:=Jg dX;have nX:=dX.size;have iZ:=lt0 w wh;have vQ:bv<wh.heap.size:=Ua))|(at_builtin;go_loud (refine K6 rfl (.tmp 47) (.tmp 54) 121 rfl wb.heap.size 9 _ 1 16 Tryz.underlying121 Zq rfl Ua _ nd.length (nd.map .string) (some ⟨wh.heap.size,0,none⟩) 1 1 [.string v.cn] rfl (Js (Jy (Jy ay bZ) dX)) rfl ⟨rfl,fun _=>⟨_,_,rfl,fun j u hj=>Fu⟩⟩ Uv Ua Ua Uj ?_;intro v9 w9 dL nh)))
  go_ret;exact⟨⟨_,rfl,by rw [HV.out];exact K8 (Jy ay bZ) Ua⟩,Jb⟩
 ·rw [eB] at hv;rw [cL] at ap;dsimp only at hv;have fR:k<L.length:=(Nh hx).1;have le:(k:Int)<(L.length:Int):=Ua;have tk1:(0:Int)<=(k:Int):=Ua;clear cL eB;have cQ:Yw nd v.cn=Yw nd v.cn:=rfl;rw (occs:= .pos [2]) [Yw] at cQ
  cases aL:v.cn.toList.isEmpty
  case true=>
   rw [aL,if_pos rfl] at cQ;rw [cQ] at hv;clear cQ;have HV:=Nf hv;clear hv
   go_enter Tryz.func55,Tryz.ntmps55
   go_wp2_with (first|(go_at_call 26;refine(aJ _ Jb).mono ?_;rintro r wb ⟨⟨A,cap,rfl,ae⟩,bG⟩;have el:=Jg bG;have dH:=bG.size;(try simp at dH);have cA:=lt0 w wb;have oa:b<wb.heap.size:=Ua;have cR:=Ju.of_own ae;have ng:=cR.len;unfold maxLen at ng;obtain⟨vN,vO⟩:=ng;clear ae)|(go_at_call 87;refine(fP _ Jb).mono ?_;rintro r wn ⟨⟨vn,rfl,ay⟩,dI⟩;obtain⟨An,cn,rfl,eR,eu⟩:=Jv ay;have qJ:=Jg dI;have qp:=dI.size;(try simp at qp);have xa:=lt0 w wn;have qq:b<wn.heap.size:=Ua)|(go_at_call 49;refine(ap _ _ _ (cR.later Jb)).mono ?_;rintro r wf ⟨rfl,bZ⟩;have hcf:=Jg bZ;have eq:=bZ.size;(try simp at eq);have rU:=lt0 w wf;have vP:b<wf.heap.size:=Ua;(obtain⟨bv,ov,rfl,dB,⟨d0,d1,d2,d3⟩⟩:=cR.get hx;have hbvn:bv<wn.heap.size:=Ua;have hbvf:bv<wf.heap.size:=Ua))|(go_at_call 54;go_loud (refine(Yu nd _ _ v.cn _ ((Qf.of_own ay).later Jb)).mono ?_;rw [HH.out];rintro r wh ⟨rfl,dX⟩;have fJ:=Jg dX;have nX:=dX.size;have iZ:=lt0 w wh;have vQ:bv<wh.heap.size:=Ua))|(at_builtin;go_loud (refine K6 rfl (.tmp 47) (.tmp 54) 121 rfl wb.heap.size 9 _ 1 16 Tryz.underlying121 Zq rfl Ua _ nd.length (nd.map .string) (some ⟨wh.heap.size,0,none⟩) 1 1 [.string v.cn] rfl (Js (Jy (Jy ay bZ) dX)) rfl ⟨rfl,fun _=>⟨_,_,rfl,fun j u hj=>Fu⟩⟩ Uv Ua Ua Uj ?_;intro v9 w9 dL nh)))
   go_ret;exact⟨⟨_,rfl,by rw [HV.out];exact K8 (Jy ay bZ) Ua⟩,Jb⟩
  rw [aL,if_neg Ul] at cQ
  cases hh:Ka nd v.cn
  case true=>
   rw [hh,if_pos rfl] at cQ;rw [cQ] at hv;clear cQ;have HV:=Nf hv;clear hv;have HH:=Nf hh;clear hh
   go_enter Tryz.func55,Tryz.ntmps55
   go_wp2_with (first|(go_at_call 26;refine(aJ _ Jb).mono ?_;rintro r wb ⟨⟨A,cap,rfl,ae⟩,bG⟩;have el:=Jg bG;have dH:=bG.size;(try simp at dH);have cA:=lt0 w wb;have oa:b<wb.heap.size:=Ua;have cR:=Ju.of_own ae;have ng:=cR.len;unfold maxLen at ng;obtain⟨vN,vO⟩:=ng;clear ae)|(go_at_call 87;refine(fP _ Jb).mono ?_;rintro r wn ⟨⟨vn,rfl,ay⟩,dI⟩;obtain⟨An,cn,rfl,eR,eu⟩:=Jv ay;have qJ:=Jg dI;have qp:=dI.size;(try simp at qp);have xa:=lt0 w wn;have qq:b<wn.heap.size:=Ua)|(go_at_call 49;refine(ap _ _ _ (cR.later Jb)).mono ?_;rintro r wf ⟨rfl,bZ⟩;have hcf:=Jg bZ;have eq:=bZ.size;(try simp at eq);have rU:=lt0 w wf;have vP:b<wf.heap.size:=Ua;(obtain⟨bv,ov,rfl,dB,⟨d0,d1,d2,d3⟩⟩:=cR.get hx;have hbvn:bv<wn.heap.size:=Ua;have hbvf:bv<wf.heap.size:=Ua))|(go_at_call 54;go_loud (refine(Yu nd _ _ v.cn _ ((Qf.of_own ay).later Jb)).mono ?_;rw [HH.out];rintro r wh ⟨rfl,dX⟩;have fJ:=Jg dX;have nX:=dX.size;have iZ:=lt0 w wh;have vQ:bv<wh.heap.size:=Ua))|(at_builtin;go_loud (refine K6 rfl (.tmp 47) (.tmp 54) 121 rfl wb.heap.size 9 _ 1 16 Tryz.underlying121 Zq rfl Ua _ nd.length (nd.map .string) (some ⟨wh.heap.size,0,none⟩) 1 1 [.string v.cn] rfl (Js (Jy (Jy ay bZ) dX)) rfl ⟨rfl,fun _=>⟨_,_,rfl,fun j u hj=>Fu⟩⟩ Uv Ua Ua Uj ?_;intro v9 w9 dL nh)))
   go_ret;exact⟨⟨_,rfl,by rw [HV.out];exact K8 (Jy (Jy ay bZ) dX) Ua⟩,Jb⟩
  rw [hh,if_neg Ul] at cQ;rw [cQ] at hv;clear cQ;have HV:=Nf hv;clear hv;have HH:=Nf hh;clear hh
  go_enter Tryz.func55,Tryz.ntmps55
  go_wp2_with (first|(go_at_call 26;refine(aJ _ Jb).mono ?_;rintro r wb ⟨⟨A,cap,rfl,ae⟩,bG⟩;have el:=Jg bG;have dH:=bG.size;(try simp at dH);have cA:=lt0 w wb;have oa:b<wb.heap.size:=Ua;have cR:=Ju.of_own ae;have ng:=cR.len;unfold maxLen at ng;obtain⟨vN,vO⟩:=ng;clear ae)|(go_at_call 87;refine(fP _ Jb).mono ?_;rintro r wn ⟨⟨vn,rfl,ay⟩,dI⟩;obtain⟨An,cn,rfl,eR,eu⟩:=Jv ay;have qJ:=Jg dI;have qp:=dI.size;(try simp at qp);have xa:=lt0 w wn;have qq:b<wn.heap.size:=Ua)|(go_at_call 49;refine(ap _ _ _ (cR.later Jb)).mono ?_;rintro r wf ⟨rfl,bZ⟩;have hcf:=Jg bZ;have eq:=bZ.size;(try simp at eq);have rU:=lt0 w wf;have vP:b<wf.heap.size:=Ua;(obtain⟨bv,ov,rfl,dB,⟨d0,d1,d2,d3⟩⟩:=cR.get hx;have hbvn:bv<wn.heap.size:=Ua;have hbvf:bv<wf.heap.size:=Ua))|(go_at_call 54;go_loud (refine(Yu nd _ _ v.cn _ ((Qf.of_own ay).later Jb)).mono ?_;rw [HH.out];rintro r wh ⟨rfl,dX⟩;have fJ:=Jg dX;have nX:=dX.size;have iZ:=lt0 w wh;have vQ:bv<wh.heap.size:=Ua))|(at_builtin;go_loud (refine K6 rfl (.tmp 47) (.tmp 54) 121 rfl wb.heap.size 9 _ 1 16 Tryz.underlying121 Zq rfl Ua _ nd.length (nd.map .string) (some ⟨wh.heap.size,0,none⟩) 1 1 [.string v.cn] rfl (Js (Jy (Jy ay bZ) dX)) rfl ⟨rfl,fun _=>⟨_,_,rfl,fun j u hj=>Fu⟩⟩ Uv Ua Ua Uj ?_;intro v9 w9 dL nh)))
  go_ret;exact⟨⟨_,rfl,by rw [HV.out,List.map_append,Nk];exact K8 dL Ua⟩,Jn (a:=w) Jb nh Ua⟩
def Jcf (c:Int×ByteArray):Value:= .agg #[.int .i64 c.1,.string c.2]
def J9 (L:List Va) (s:ByteArray):Int×ByteArray:=L.foldl (fun c v=>if s.data=v.name.data then(v.ck,v.cn) else c) (0,⟨#[]⟩)
def Jkd (f:ByteArray->Option Value) (L:List Va):Prop:=∀s,(f s).getD (Jcf (0,⟨#[]⟩))=Jcf (J9 L s)
theorem Jo8:Jkd (fun _=>none) []:=fun s=>rfl
theorem Jmq {f:ByteArray->Option Value} {L:List Va} (h:Jkd f L) (v:Va):Jkd (Jki f v.name (Jcf (v.ck,v.cn))) (L ++ [v]):=by
 intro s;unfold J9 Jki;rw [List.foldl_append];simp only [List.foldl_cons,List.foldl_nil]
 by_cases hs:s.data=v.name.data
 ·rw [if_pos hs,if_pos hs];rfl
 ·rw [if_neg hs,if_neg hs];exact h s
theorem Jfz (w:World):(zeroValue 55).run Tryz.prog w = .ok (Jcf (0,⟨#[]⟩)) w:=Ug
def Z1 (L:List Va) (q:Qe):List ByteArray:=if (J9 L q.name).1=0 then Kx q.e else Kx q.e ++ [(J9 L q.name).2]
theorem Qn {a b c:World} {row:Option Nat} (h1:a.grownBy b row) (h2:b.grownBy c row):a.grownBy c row:=Yz h1 h2 (.inl rfl)
theorem Jzj:(Tryz.prog.info? 121).map (fun i=>(i.zero,i.size,i.bytes))=some (some (.slice none 0 0),1,24):=Ug
theorem Qf.off_own {w:World} {base:Nat} {e:TypeId} {l:List ByteArray} {A:Option Addr} {cap:Nat} (h:w.ownsRow base e 1 (.slice A l.length cap) l.length (l.map .string)):Off base none w (fun V=>Qf V l A cap):=by
 intro w' jC
 rcases Nat.eq_zero_or_pos l.length with h0|h0
 ·exact⟨(Qf.of_own h).1,(Qf.of_own h).2.1,fun hl=>absurd hl Ua⟩
 ·obtain⟨g,c',hv,hg,am,h1,h2,hc⟩:=Kc h h0;injection hv with e1 e2 e3;subst e1 e3;refine⟨h1,h2,fun _=>⟨g,0,rfl,fun k s hk=>?_⟩⟩;rw [Nat.zero_add];exact Jr (jC g hg am Ul) (hc k _ L6)
def Jde (L:List Va) (eqs:List Qe) (g k:Nat) (w:World) (xs:List Value):Prop:=
 (∀(j:Nat) (q:Qe),j<k->eqs[j]?=some q->∃A cap,xs[j]?=some (.slice A (Z1 L q).length cap)/\Off (g+1) none w (fun V=>Qf V (Z1 L q) A cap))/\∀j,k<=j->j<eqs.length->xs[j]?=some (.slice none 0 0)
theorem Jt6 {w w':World} {base size n n' cap g:Nat} {e:TypeId} {xs:List Value} (h:w.ownsRow base e size (.slice (some ⟨g,0,none⟩) n' cap) n xs) (hb:w'.heap[g]?=w.heap[g]?):w'.ownsRow base e size (.slice (some ⟨g,0,none⟩) n' cap) n xs:=by
 obtain⟨h1,h2⟩:=h;refine⟨h1,?_⟩
 rcases h2 with h2|⟨g',cap',cur,hv,hg,hh,r⟩
 ·exact .inl h2
 ·refine .inr ⟨g',cap',cur,hv,hg,?_,r⟩;have hgg:g=g':=by injection hv with e1;injection e1 with e1;injection e1
  rw [<-hgg] at hh ⊢;rw [hb];exact hh
theorem Jde.step {L:List Va} {eqs:List Qe} {g k:Nat} {w w':World} {xs:List Value} {q:Qe} {A:Option Addr} {cap:Nat} (h:Jde L eqs g k w xs) (hw:∀b,g+1<=b->b<w.heap.size->w'.heap[b]?=w.heap[b]?) (hz:w.heap.size<=w'.heap.size)
  (hq:eqs[k]?=some q) (hx:k<xs.length) (fb:Off (g+1) none w' (fun V=>Qf V (Z1 L q) A cap)):Jde L eqs g (k+1) w' (xs.set k (.slice A (Z1 L q).length cap)):=by
 refine⟨fun j q' hj tt=>?_,fun j hj hl=>?_⟩
 ·rcases Nat.lt_or_ge j k with tB|tB
  ·obtain⟨A',cap',h1,h2⟩:=h.1 j q' tB tt;exact⟨A',cap',by rw [List.getElem?_set_ne Ua];exact h1,h2.grow (fun b hb am _=>hw b hb am) hz (.inl rfl)⟩
  ·obtain rfl:j=k:=Ua;obtain rfl:q=q':=by rw [hq] at tt;injection tt
   exact⟨A,cap,by rw [List.getElem?_set_self hx],fb⟩
 ·rw [List.getElem?_set_ne Ua];exact h.2 j Ua hl
theorem Jsz (p:Pr) (a:PrA) (w:World) (hp:Kr w p a) (n1:p.ins.length<=1000000) (n2:p.outs.length<=1000000) (n3:p.locals.length<=1000000) (n4:p.eqs.length<=1000000) (hs:∀v∈Je p,v.name.size<=maxLen) (dn:∀q∈p.eqs,q.name.size<=maxLen/\q.e.OK/\q.e.size<=1000000) :
  Calls Tryz.prog 46 #[prV p a] w fun r w'=>(∃g xs,r = .returned (.slice (some ⟨g,0,none⟩) p.eqs.length p.eqs.length)/\w.heap.size<=g/\w'.ownsRow g 121 1 (.slice (some ⟨g,0,none⟩) p.eqs.length p.eqs.length) p.eqs.length xs/\Jde (Je p) p.eqs g p.eqs.length w' xs)/\Below w.heap.size w w':=by
 have aJ:=fun W h=>Jcv p a W (hp.later h) n1 n2 n3;have hL3:(Je p).length<=3000000:=by simp [Je];omega
 obtain⟨A1,c1,A2,c2,A3,c3,A4,c4⟩:=a;unfold prV at *;dsimp only at *;have gI:=@run_makeMap Tryz.prog;generalize hL:Je p=L at *;clear hL;have HS:=Nf hs;clear hs;have jR:=Nf dn;clear dn;have bT:=hp.eqs;have cG:=hp.eqs.len;unfold maxLen at cG;dsimp only at bT cG;obtain⟨fT,fU⟩:=cG;obtain⟨ti,hti0,hti1,hti2,hti3⟩:=info_parts Jzj;clear hp
 go_enter Tryz.func46,Tryz.ntmps46
 go_wp2_with (first|(go_at_call 42;refine(aJ _ Jb).mono ?_;rintro r wb ⟨⟨A,cap,rfl,ae⟩,aH⟩;have el:=Jg aH;have dH:=aH.size;(try simp at dH);have cA:=lt0 w wb;have ep:=ltA w 1 wb;have cR:=Ju.of_own ae))
 refine Jo fun W0 ag=>?_;have ax:=Nd w W0 Uo;have bD:w.heap.size+1<W0.heap.size:=by rw [ag];exact ep
 have bE:Off (w.heap.size+2) none W0 (fun W=>Ju W L A cap):=by rw [ag];have:=Ju.off_own' ae;simpa using this
 have eU:Jaz Tryz.prog 9 W0 (w.heap.size+1) 0 (fun _=>none):=by
  rw [ag];have h1:=(Jaz.made (P:=Tryz.prog) (k:=9) (w.alloc (.cells #[.string p.name,.slice A1 p.ins.length c1,.slice A2 p.outs.length c2,.slice A3 p.locals.length c3,.slice A4 p.eqs.length c4] 25)));have h2:=h1.bel aH;exact Lg
 have p4:=Nb W0 w.heap.size 4 (.slice A4 p.eqs.length c4) Uc;have cY:=bE.here.len;unfold maxLen at cY;obtain⟨fH,fI⟩:=cY;clear ag ae cR el aH dH cA ep aJ gI
 go_loopw [14] (fun i wr=>∃(k n:Nat) (f:ByteArray->Option Value),k<=L.length/\i = .int .i64 k/\n<=k/\Hid (Jaz Tryz.prog 9 wr (w.heap.size+1) n f)/\Hid (Jkd f (L.take k))/\Hid (W0.grownBy wr (some (w.heap.size+1)))) (fun i _=>L.length-(intOf i).toNat)
 case atStart=>exact⟨0,0,_,Np,rfl,Ns _,Nf eU,Nf Jo8,Nf ⟨rfl,rfl,rfl,Ns _,fun _ _ _=>rfl⟩⟩
 case round=>
  obtain⟨k,n,f,hk,rfl,hn,hm,aN,bB⟩:=hrel;have eC:=bB.out.size
  by_cases am:k<L.length
  ·have hx:L[k]?=some L[k]:=Ng am;have aj:L[k]∈L:=Nj am;have aP:L.take (k+1)=L.take k ++ [L[k]]:=U6;generalize L[k]=x at hx aj aP;have jg:Ju wr L A cap:=bE wr fun b h1 h2 _=>bB.out.block b h2 Vc;obtain⟨b,off,rfl,aH,⟨d0,d1,d2,d3⟩⟩:=jg.get hx;have dT:=HS.out x aj;have jy:=Nf (by rw [aP];exact Jmq aN.out x:Jkd (Jki f x.name (Jcf (x.ck,x.cn))) (L.take (k+1)));have ej:=hm.out;have bu:=ltA w 1 wr;clear hx aj aP jg aN
   go_wp2_with (first|(at_mapUpdate;go_loud (refine Jlj rfl (.tmp 18) (.tmp 20) (.tmp 22) 69 rfl Tryz.underlying9 Tryz.underlying69 (w.heap.size+1) n f x.name (Jcf (x.ck,x.cn)) rfl (ej.keep1 (heap_alloc_old _ _ bu)) Ua rfl rfl dT ?_;intro w2 cI aG;have kj:=Nf cI;have kr:=Nf aG;clear cI aG)))
   go_roundw
   case rel=>exact⟨k+1,n+1,_,Ua,Up,Ua,kj,jy,Nf (Qn bB.out (Qn (World.grownBy_alloc wr _ _) kr.out))⟩
   case measure=>simp [intOf];omega
  ·obtain rfl:k=L.length:=Ua;have iw:=hm.out;have mB:=aN.out;rw [List.take_length] at mB;have jy:=Nf mB;have ez:=bB.out;have aC:=Nd w wr (J2 ax ez (fun b hb=>U1) Ua);have q4:=Nb wr w.heap.size 4 (.slice A4 p.eqs.length c4) (Jr (ez.block w.heap.size Ua Vc) p4);have bu:=ltA w 1 wr;clear bB ez aN mB hm p4 bE
   go_wp2_with (first|(at_make;go_loud (refine wpList_make_full _ rfl (.tmp 26) (.tmp 26) 117 rfl wr.heap.size 121 ti _ 1 Tryz.underlying117 hti0 hti1 hti2 .i64 .i64 p.eqs.length p.eqs.length p.eqs.length rfl rfl rfl rfl (by rw [hti3];omega) U2 (Ns _) ?_;intro w2 ao aG;have q42:=Nb w2 w.heap.size 4 (.slice A4 p.eqs.length c4) (Jr (aG.block w.heap.size Ua Ul) q4);have sK:=Nf ao;have kr:=Nf aG;clear ao aG)))
   obtain⟨Wa,rfl⟩:∃Wa,Wa=wr:=⟨wr,rfl⟩;have iY:=Nd w w2 (J2 aC kr.out (fun b hb=>by simp at hb) Ua);have br:Wa.heap.size<=w2.heap.size:=kr.out.size;have cI:Hid (Jaz Tryz.prog 9 w2 (w.heap.size+1) n f):=Nf (iw.keep1 (kr.out.block _ Ua Ul));clear iw q4
   go_loopw [31] (fun i wr=>∃(k:Nat) (xs:List Value),k<=p.eqs.length/\i = .int .i64 k/\Hid (wr.ownsRow Wa.heap.size 121 1 (.slice (some ⟨Wa.heap.size,0,none⟩) p.eqs.length p.eqs.length) p.eqs.length xs)/\Hid (Jde L p.eqs Wa.heap.size k wr xs)/\Hid (w2.grownBy wr (some Wa.heap.size))) (fun i _=>p.eqs.length-(intOf i).toNat)
   case atStart=>
    refine⟨0,_,Np,rfl,sK,Nf ⟨fun j q hj=>absurd hj Ua,fun j _ hj=>?_⟩,Nf ⟨rfl,rfl,rfl,Ns _,fun _ _ _=>rfl⟩⟩;rw [show(Value.slice none 0 0).cells = #[Value.slice none 0 0] from rfl,Nat.mul_one,toList_madeCells_one,List.getElem?_replicate,if_pos hj]
   case round=>
    obtain⟨k,xs,hk,rfl,ae,vE,bB⟩:=hrel;have eC:=bB.out.size;have dh:=Nd w wr (J2 iY bB.out (fun b hb=>U1) Ua);have hGlt:Wa.heap.size<wr.heap.size:=(ae.out.lt Wa.heap.size rfl).2
    by_cases am:k<p.eqs.length
    ·obtain⟨q,hx,-,hd⟩:=Kl am;obtain⟨b,off,B1,n1,B2,n2,rfl,aH,⟨g0,g1,g2,g3,g4,g5,g6,g7,g8,g9,s1,s2⟩⟩:=(bT.later dh).get hx;have aj:=Ni hx;obtain⟨dw,gV,ju⟩:=jR.out q aj;have fP:=fun W h=>Jvk q.e B2 n2 W (s2.later h) gV ju;have e0:=Nb wr Wa.heap.size k (.slice none 0 0) ((ae.out.cellAt k Ua).trans (vE.out.2 k (Ns _) am));have f0:=Nc wr Wa.heap.size k (ae.out.frozenAt k);have ej:=cI.out.keep1 (bB.out.block (w.heap.size+1) Ua Vc);obtain⟨ck,cs,bO⟩:∃ck cs,J9 L q.name=(ck,cs):=⟨_,_,rfl⟩;have mK:=Nf bO;clear bO;have HX:=Nf hx;have yf:=ltA w 1 wr;unfold exV at fP;clear hd hx aj gV;have lB:xs.length=p.eqs.length:=by have:=ae.out.1;omega
     have HXL:=Nf lB;clear lB
     by_cases ob:ck=0
     ·have t1:(ck != 0)=false:=by simpa using ob
      have hnq:Z1 L q=Kx q.e:=by unfold Z1;rw [mK.out,if_pos ob]
      have HNQ:=Nf hnq;clear hnq ob
      go_wp2_with (first|(go_at_call 79;go_loud (refine(fP _ Jb).mono ?_;rintro r wn ⟨⟨vn,rfl,ay⟩,dI⟩;obtain⟨An,cn,rfl,eR,eu⟩:=Jv ay;have qJ:=Jg dI;have lF:=Jf dI;have qp:wr.heap.size+1<=wn.heap.size:=(by have:=dI.size;simpa using this);have xa:=lt0 w wn;have hyn1:=ltA w 1 wn;have qq:=lt0 wr wn;have hyn3:=lt0 Wa wn;have hmn:=Nf (ej.keep1 ((dI.block (w.heap.size+1) Uj).trans (heap_alloc_old _ _ yf)));have jZ:=Nf ay;clear ay))|(at_lookup;go_loud (refine Jel rfl (.tmp 42) (.tmp 44) 69 rfl Tryz.underlying9 Tryz.underlying69 (Jcf (0,⟨#[]⟩)) (Jfz _) (w.heap.size+1) n f q.name rfl (hmn.out.keep1 (heap_setCell_other _ _ _ _ (by show w.heap.size+1≠Wa.heap.size;omega))) rfl dw ?_;rw [jy.out q.name,mK.out];unfold Jcf)))
      go_roundw
      case rel=>
       have qr:=Jy (Js (o:= .cells #[.string q.name,.int .i64 q.delay,.int .i64 q.first.kind,.int .i32 q.first.n,.string q.first.name,.slice B1 q.first.sub.length n1,.int .i64 q.e.kind,.int .i32 q.e.n,.string q.e.name,.slice B2 q.e.sub.length n2] 53) ae.out) dI;have cP:=qr.stored k (.slice An (Kx q.e).length cn);refine⟨k+1,xs.set k (.slice An (Kx q.e).length cn),Ua,Up,Nf (Js cP.1),Nf ?_,Nf (Qn (Qn (Qn (Qn bB.out (World.grownBy_alloc wr _ _)) (Jat dI)) cP.2) (World.grownBy_alloc _ _ _))⟩
       have fb:Off (Wa.heap.size+1) none ((wn.setCell ⟨Wa.heap.size,k,none⟩ (.slice An (Kx q.e).length cn)).alloc (.cells #[.int .i64 ck,.string cs] 55)) (fun V=>Qf V (Z1 L q) An cn):=by
        rw [HNQ.out];exact((Qf.off_own jZ.out).less (base:=Wa.heap.size+1) Uj).grow (fun b ac aq _=>(heap_alloc_old _ _ (by simpa using aq)).trans (heap_setCell_other _ _ _ _ Sr)) Ul (.inl rfl)
       have:=vE.out.step (w':=(wn.setCell ⟨Wa.heap.size,k,none⟩ (.slice An (Kx q.e).length cn)).alloc (.cells #[.int .i64 ck,.string cs] 55)) (fun b ac aq=>(heap_alloc_old _ _ Uj).trans ((heap_setCell_other _ _ _ _ Sr).trans ((dI.block b Uj).trans (heap_alloc_old _ _ aq)))) Uj HX.out (by rw [HXL.out];exact am) fb;rw [HNQ.out] at this;exact this
      case measure=>simp [intOf];omega
     ·have t1:(ck != 0)=true:=by simpa using ob
      have hnq:Z1 L q=Kx q.e ++ [cs]:=by unfold Z1;rw [mK.out,if_neg ob]
      have HNQ:=Nf hnq;clear hnq ob;have jV:=Jmt q.e
      go_wp2_with (first|(go_at_call 79;go_loud (refine(fP _ Jb).mono ?_;rintro r wn ⟨⟨vn,rfl,ay⟩,dI⟩;obtain⟨An,cn,rfl,eR,eu⟩:=Jv ay;have qJ:=Jg dI;have lF:=Jf dI;have qp:wr.heap.size+1<=wn.heap.size:=(by have:=dI.size;simpa using this);have xa:=lt0 w wn;have hyn1:=ltA w 1 wn;have qq:=lt0 wr wn;have hyn3:=lt0 Wa wn;have hmn:=Nf (ej.keep1 ((dI.block (w.heap.size+1) Uj).trans (heap_alloc_old _ _ yf)));have jZ:=Nf ay;clear ay))|(at_lookup;go_loud (refine Jel rfl (.tmp 42) (.tmp 44) 69 rfl Tryz.underlying9 Tryz.underlying69 (Jcf (0,⟨#[]⟩)) (Jfz _) (w.heap.size+1) n f q.name rfl (hmn.out.keep1 (heap_setCell_other _ _ _ _ (by show w.heap.size+1≠Wa.heap.size;omega))) rfl dw ?_;rw [jy.out q.name,mK.out];unfold Jcf)))
      have jI:wn.ownsRow (wr.heap.size+1) 9 1 (.slice An (Kx q.e).length cn) (Kx q.e).length ((Kx q.e).map .string):=by have:=jZ.out;simpa using this
      have hownX:((wn.setCell ⟨Wa.heap.size,k,none⟩ (.slice An (Kx q.e).length cn)).alloc (.cells #[.int .i64 ck,.string cs] 55)).ownsRow (wr.heap.size+1) 9 1 (.slice An (Kx q.e).length cn) (Kx q.e).length ((Kx q.e).map .string):=Js (Kn jI (fun b hb=>by have:=(jI.lt b hb).1;omega) _ _);have wk:=Nb wn Wa.heap.size k (.slice none 0 0) (Ja dI (Ja (Jc (Nt) _) e0));have wkf:=Nc wn Wa.heap.size k ((dI.frozen (p:=⟨Wa.heap.size,k,none⟩) (show Wa.heap.size<_ by simp;omega)).trans (((Jc (Nt) _).frozen (p:=⟨Wa.heap.size,k,none⟩) hGlt).trans f0));have xk:((wn.setCell ⟨Wa.heap.size,k,none⟩ (.slice An (Kx q.e).length cn)).alloc (.cells #[.int .i64 ck,.string cs] 55)).cell? ⟨Wa.heap.size,k,none⟩=some (.slice An (Kx q.e).length cn):=Uq;have xf:((wn.setCell ⟨Wa.heap.size,k,none⟩ (.slice An (Kx q.e).length cn)).alloc (.cells #[.int .i64 ck,.string cs] 55)).frozen? ⟨Wa.heap.size,k,none⟩=false:=Uq;have XK:=Nf xk;have XF:=Nf xf;clear xk xf;have hrz:wr.heap.size+1<=wn.heap.size:=qp
      go_region_law (first
       | (refine Jg1 rfl (.tmp 54) (.tmp 57) 121 rfl (wr.heap.size+1) 9 _ 1 16 Tryz.underlying121 Zq rfl Ua (.slice An (Kx q.e).length cn) (Kx q.e).length ((Kx q.e).map .string) (some ⟨wn.heap.size+1,0,none⟩) 1 1 [.string cs] rfl (Js (Kp hownX)) rfl ⟨rfl,fun _=>⟨_,_,rfl,fun j u hj=>by rw [Nat.zero_add];exact(Qo Ul).trans Sg⟩⟩ Uv Ua Ua Uj ?_;intro v9 w9 dL nh;go_loud (obtain⟨A9,c9,rfl,hc91,hc92⟩:=Jv dL;have k9:=Nb w9 Wa.heap.size k (.slice An (Kx q.e).length cn) ((nh.cell (p:=⟨Wa.heap.size,k,none⟩) (show Wa.heap.size<wr.heap.size+1 by omega)).trans (Ja (Jc (Nt) _) (Zw XK.out)));have k9f:=Nc w9 Wa.heap.size k ((nh.frozen (p:=⟨Wa.heap.size,k,none⟩) (show Wa.heap.size<wr.heap.size+1 by omega)).trans (((Jc (Jh (Nt)) _).frozen (p:=⟨Wa.heap.size,k,none⟩) (show Wa.heap.size<_ by simp;omega)).trans XF.out));have HO9:=Nf dL;have HB9:=Nf nh;clear dL nh)))
      all_goals
       go_wp2_with fail
       go_roundw
       case rel=>
        have qr:=Jy (Js (o:= .cells #[.string q.name,.int .i64 q.delay,.int .i64 q.first.kind,.int .i32 q.first.n,.string q.first.name,.slice B1 q.first.sub.length n1,.int .i64 q.e.kind,.int .i32 q.e.n,.string q.e.name,.slice B2 q.e.sub.length n2] 53) ae.out) dI;have cP:=qr.stored k (.slice An (Kx q.e).length cn);have hz9:=HB9.out.size;have gH:wn.heap.size<=w9.heap.size:=by refine Nat.le_trans ?_ hz9;show wn.heap.size<=(World.alloc _ _).heap.size;simp;omega
        have hX:∀b,b<wr.heap.size->w9.heap[b]?=(wn.setCell ⟨Wa.heap.size,k,none⟩ (.slice An (Kx q.e).length cn)).heap[b]?:=fun b hb=>
         (HB9.out.block b Ua).trans ((heap_alloc_old _ _ Uj).trans (heap_alloc_old _ _ Uj))
        have vR:=(Jt6 cP.1 (hX _ hGlt)).stored k (.slice A9 ((Kx q.e).length+1) c9);rw [List.set_set] at vR;have rG:wr.grownBy w9 (some Wa.heap.size):=⟨HB9.out.os.trans dI.os,HB9.out.tape.trans dI.tape,HB9.out.output.trans dI.output,Ua,fun b hb aS=>(hX b hb).trans ((heap_setCell_other _ _ _ _ (by show b≠Wa.heap.size;intro h;exact aS Ti)).trans ((dI.block b Uj).trans (heap_alloc_old _ _ hb)))⟩;have hgf:=Qn rG vR.2;refine⟨k+1,xs.set k (.slice A9 ((Kx q.e).length+1) c9),Ua,Up,Nf vR.1,Nf ?_,Nf (Qn bB.out hgf)⟩
        have fb:Off (Wa.heap.size+1) none (w9.setCell ⟨Wa.heap.size,k,none⟩ (.slice A9 ((Kx q.e).length+1) c9)) (fun V=>Qf V (Z1 L q) A9 c9):=by
         have ho:=HO9.out;rw [HNQ.out];have jm:w9.ownsRow (wr.heap.size+1) 9 1 (.slice A9 (Kx q.e ++ [cs]).length c9) (Kx q.e ++ [cs]).length ((Kx q.e ++ [cs]).map .string):=by rw [List.map_append,Nk];exact ho
         exact((Qf.off_own jm).grow (fun b ac aq _=>heap_setCell_other _ _ _ _ Sr) Ul (.inl rfl)).less Ua
        have:=vE.out.step (fun b ac aq=>hgf.block b aq (by intro h;injection h with h;omega)) hgf.size HX.out (by rw [HXL.out];exact am) fb;rw [show(Z1 L q).length=(Kx q.e).length+1 by rw [HNQ.out];simp] at this;exact this
       case measure=>simp [intOf];omega
    ·obtain rfl:k=p.eqs.length:=Ua;have HB:=Nf dh;clear dh
     go_wp2_with fail
     go_ret;exact⟨⟨Wa.heap.size,xs,rfl,Ua,ae.out,vE.out⟩,HB.out⟩
end Go.Proofs.YtknfcamdfdfoeaaGreatDoor
namespace Go.Proofs.YtknfcamdfdfoeaaGreatDoor
open Go.RowKit
def Yd (R:List ByteArray) (nd:Qe->List ByteArray):Nat->List Qe->Int×Int
 | _,[]=>(-1,-1)
 | k,q :: r=>if Ka R q.name=true then Yd R nd (k+1) r else((k:Int),if (nd q).all (Ka R)=true then(k:Int) else(Yd R nd (k+1) r).2)
def Jbi (f:ByteArray->Option Int) (nd:Qe->List ByteArray):Nat->List Qe->Int->Int×Int
 | _,[],m=>(m,-1)
 | k,q :: r,m=>if f q.name=some (k:Int) then(if Jb2 f (nd q)=true then(if m<0 then(k:Int) else m,(k:Int)) else Jbi f nd (k+1) r (if m<0 then(k:Int) else m)) else Jbi f nd (k+1) r m
theorem Jmd {R:List ByteArray} {f:ByteArray->Option Int} {nr np:Qe->List ByteArray} : ∀(l:List Qe) (k:Nat) (m:Int),(m = -1\/0<=m)->
  (∀(i:Nat) (q:Qe),l[i]?=some q->(f q.name=some ((k+i:Nat):Int)<->Ka R q.name=false))->(∀q∈l,Ka R q.name=false->Jb2 f (np q)=(nr q).all (Ka R))->
  (Jbi f np k l m).2=(Yd R nr k l).2/\((Yd R nr k l).2<0->(Jbi f np k l m).1=if m<0 then(Yd R nr k l).1 else m)
 | [],k,m,eU,_,_=>by
  refine⟨rfl,fun _=>?_⟩;simp only [Jbi,Yd]
  by_cases hm:m<0
  ·rw [if_pos hm];omega
  ·rw [if_neg hm]
 | q :: r,k,m,eU,h1,h2=>by
  have hq:=h1 0 q rfl;rw [Nat.add_zero] at hq
  have h1':∀(i:Nat) (q:Qe),r[i]?=some q->(f q.name=some ((k+1+i:Nat):Int)<->Ka R q.name=false):=fun i x hx=>by
   have:=h1 (i+1) x (by simpa using hx)
   rwa [show k+(i+1)=k+1+i from by omega] at this
  have tA:∀x∈r,Ka R x.name=false->Jb2 f (np x)=(nr x).all (Ka R):=fun x hx=>h2 x Fz
  cases hb:Ka R q.name
  ·have hf:=hq.2 hb;have hr:=h2 q Ul hb;rw [Jbi,Yd,if_pos hf,hb,if_neg (show ¬(false=true) by simp),hr]
   cases ha:(nr q).all (Ka R)
   ·rw [if_neg (show ¬(false=true) by simp),if_neg (show ¬(false=true) by simp)];obtain⟨e1,e2⟩:=Jmd r (k+1) (if m<0 then(k:Int) else m) (by split <;> omega) h1' tA;refine⟨e1,fun am=>?_⟩;rw [e2 am]
    by_cases hm:m<0
    ·simp only [if_pos hm];rw [if_neg Ua]
    ·simp only [if_neg hm]
   ·rw [if_pos rfl,if_pos rfl];exact⟨rfl,fun am=>absurd am (by show ¬((k:Int)<0);omega)⟩
  ·have hf:¬f q.name=some (k:Int):=fun h=>by have:=hq.1 h;rw [hb] at this;simp at this
   rw [Jbi,Yd,if_neg hf,hb,if_pos rfl];exact Jmd r (k+1) m eU h1' tA
def Za (eqs:List Qe) (j:Int):ByteArray:=match eqs[j.toNat]? with|some q=>q.name|none=>⟨#[]⟩
def Jfk (nd:Qe->List ByteArray) (eqs:List Qe) (left:Nat):Nat->List ByteArray->List Int->List Int×(Int×Int×Int)
 | 0,_,out=>(out,(0,0,0))
 | t+1,R,out=>if out.length<left then(if (Yd R nd 0 eqs).2<0 then([],(3,(Yd R nd 0 eqs).1,22)) else Jfk nd eqs left t (R ++ [Za eqs (Yd R nd 0 eqs).2]) (out ++ [(Yd R nd 0 eqs).2])) else(out,(0,0,0))
def Jj9 (nd:Qe->List ByteArray) (eqs:List Qe):Nat->(ByteArray->Option Int)->Nat->List Int->List Int×(Int×Int×Int)
 | 0,_,_,out=>(out,(0,0,0))
 | t+1,f,c,out=>if 0<c then(if (Jbi f nd 0 eqs (-1)).2<0 then([],(3,(Jbi f nd 0 eqs (-1)).1,22)) else Jj9 nd eqs t (Jck f (Za eqs (Jbi f nd 0 eqs (-1)).2)) (c-1) (out ++ [(Jbi f nd 0 eqs (-1)).2])) else(out,(0,0,0))
theorem Jgw {s t:ByteArray} : (s.toList == t.toList)=decide (s.data=t.data):=by
 rw [Bool.eq_iff_iff,Zf];simp only [decide_eq_true_eq];exact⟨fun h=>Ti,fun h=>by ext1;exact h⟩
theorem Jqx {f:ByteArray->Option Int} {R:List ByteArray} {s s0:ByteArray} {i:Int} (h:f s=some i<->Ka R s=false):Jck f s0 s=some i<->Ka (R ++ [s0]) s=false:=by
 exact Ubi
theorem Jqd {f:ByteArray->Option Int} {R:List ByteArray} {s s0:ByteArray} (h:(f s).isSome=!Ka R s):(Jck f s0 s).isSome=!Ka (R ++ [s0]) s:=by
 exact Ubi
theorem Jnn {f:ByteArray->Option Int} {R:List ByteArray} : ∀ {l:List ByteArray},(∀s∈l,(f s).isSome=!Ka R s)->Jb2 f l=l.all (Ka R)
 | [],_=>rfl
 | s :: l,h=>by
  have h1:=h s Ul;have h2:=Jnn (l:=l) fun x hx=>h x Fz;unfold Jb2 at h2 ⊢;rw [List.all_cons,List.all_cons,h2,h1,Bool.not_not]
theorem Jue {nr np:Qe->List ByteArray} {eqs:List Qe} {left:Nat} (bW:∀q∈eqs,∀R,(np q).all (Ka R)=(nr q).all (Ka R)):∀(t:Nat) (f:ByteArray->Option Int) (R:List ByteArray) (c:Nat) (out:List Int),
  out.length+c=left->(∀(i:Nat) (q:Qe),eqs[i]?=some q->(f q.name=some (i:Int)<->Ka R q.name=false))->(∀q∈eqs,∀s∈np q,(f s).isSome=!Ka R s)->
  Jj9 np eqs t f c out=Jfk nr eqs left t R out
 | 0,f,R,c,out,_,_,_=>rfl
 | t+1,f,R,c,out,hc,hw,hi=>by
  obtain⟨e1,e2⟩:=Jmd (R:=R) (f:=f) (nr:=nr) (np:=np) eqs 0 (-1) (.inl rfl) (fun i q hq=>by rw [Nat.zero_add];exact hw i q hq) (fun q hq _=>(Jnn (hi q hq)).trans (bW q hq R));rw [Jj9,Jfk,e1]
  by_cases h0:0<c
  ·rw [if_pos h0,if_pos (show out.length<left by omega)]
   by_cases hn:(Yd R nr 0 eqs).2<0
   ·rw [if_pos hn,if_pos hn,e2 hn,if_pos Ua]
   ·rw [if_neg hn,if_neg hn];exact Jue bW t _ _ (c-1) _ Uj (fun i q hq=>Jqx (hw i q hq)) (fun q hq s hs=>Jqd (hi q hq s hs))
  ·rw [if_neg h0,if_neg (show ¬out.length<left by omega)]
theorem Jbk {l:List ByteArray} {s:ByteArray} : Ka l s=true<->s∈l:=by
 unfold Ka;rw [List.any_eq_true]
 constructor
 ·rintro⟨x,hx,h⟩;rw [Zf] at h;rw [<-h];exact hx
 ·intro h;exact⟨s,h,by rw [Zf]⟩
theorem Jb5 {l:List ByteArray} {s:ByteArray} : Ka l s=false<->s ∉ l:=by
 rw [<-Bool.not_eq_true,Jbk]
def Jbq (l:List Qe):List ByteArray:=(l.filter (fun q=>q.delay != 0)).map (·.name)
def Yn (l:List Qe):Nat:=(l.filter (fun q=>q.delay == 0)).length
theorem Jpy (l:List Qe) (q:Qe):Jbq (l ++ [q])=if (q.delay != 0)=true then Jbq l ++ [q.name] else Jbq l:=by
 unfold Jbq;rw [List.filter_append]
 cases h:q.delay != 0 <;> simp [h]
theorem Js8 (l:List Qe) (q:Qe):Yn (l ++ [q])=if (q.delay != 0)=true then Yn l else Yn l+1:=by
 unfold Yn;rw [List.filter_append]
 by_cases h:q.delay=0 <;> simp [h]
theorem Jvy (l:List Qe):Yn l<=l.length:=List.length_filter_le _ _
theorem Jdq {l:List Qe} {s:ByteArray} : s∈Jbq l<->∃q∈l,q.delay≠0/\q.name=s:=by
 unfold Jbq;rw [List.mem_map]
 constructor
 ·rintro⟨q,hq,rfl⟩;rw [List.mem_filter] at hq;exact⟨q,hq.1,by simpa using hq.2,rfl⟩
 ·rintro⟨q,hq,hd,rfl⟩;exact⟨q,by rw [List.mem_filter];exact⟨hq,G9⟩,rfl⟩
def Yj (p:Pr):List ByteArray:=p.ins.map (·.name) ++ Jbq p.eqs
def Jbo (p:Pr):List Int×(Int×Int×Int):=Jfk (ofR (Je p)) p.eqs (Yn p.eqs) (Yn p.eqs) (Yj p) []
def Yt:Nat->(ByteArray->Option Int)->Nat->List Qe->(ByteArray->Option Int)×Nat
 | _,f,c,[]=>(f,c)
 | k,f,c,q :: r=>if (q.delay == 0)=true then Yt (k+1) (upd f q.name (k:Int)) (if (f q.name).isSome then c else c+1) r else Yt (k+1) f c r
theorem Jim:∀(l:List Qe) (k:Nat) (f:ByteArray->Option Int) (c:Nat),l.Pairwise (fun a b=>a.name≠b.name)->(∀q∈l,f q.name=none)->
  (∀s,(∀q∈l,q.delay=0->q.name≠s)->(Yt k f c l).1 s=f s)/\(∀(i:Nat) (q:Qe),l[i]?=some q->q.delay=0->(Yt k f c l).1 q.name=some ((k+i:Nat):Int))/\(Yt k f c l).2=c+Yn l
 | [],k,f,c,_,_=>⟨fun s _=>rfl,Ul,by simp [Yt,Yn]⟩
 | q :: r,k,f,c,hp,hf=>by
  obtain⟨ii,gL⟩:=List.pairwise_cons.1 hp
  have oF:∀s,s≠q.name->upd f q.name (k:Int) s=f s:=by
   intro s hs;unfold upd;rw [if_neg];intro hd;exact hs (by ext1;exact hd)
  have xi:upd f q.name (k:Int) q.name=some (k:Int):=by unfold upd;rw [if_pos rfl]
  rw [Yt]
  by_cases hd:q.delay=0
  ·rw [if_pos G9,hf q Ul];obtain⟨a1,a2,a3⟩:=Jim r (k+1) (upd f q.name (k:Int)) (c+1) gL (fun x hx=>by rw [oF _ (fun e=>ii x hx e.symm)];exact hf x Fz);refine⟨fun s hs=>?_,fun i x hi hx=>?_,?_⟩
   ·rw [show(if (none:Option Int).isSome=true then c else c+1)=c+1 from rfl,a1 s fun x hx rd=>hs x Fz rd];exact oF s fun e=>hs q Ul hd e.symm
   ·rw [show(if (none:Option Int).isSome=true then c else c+1)=c+1 from rfl]
    cases i with
    | zero=>
     obtain rfl:q=x:=Mf;rw [a1 q.name fun y hy _ e=>ii y hy e.symm,xi];rfl
    | succ i=>
     rw [a2 i x Mf hx]
     congr 2;omega
   ·rw [show(if (none:Option Int).isSome=true then c else c+1)=c+1 from rfl,a3];have:Yn (q :: r)=Yn r+1:=by unfold Yn;rw [List.filter_cons,if_pos G9];rfl
    exact Ua
  ·rw [if_neg G9];obtain⟨a1,a2,a3⟩:=Jim r (k+1) f c gL (fun x hx=>hf x Fz);refine⟨fun s hs=>a1 s fun x hx rd=>hs x Fz rd,fun i x hi hx=>?_,?_⟩
   ·cases i with
    | zero=>
     obtain rfl:q=x:=Mf;exact absurd hx hd
    | succ i=>
     rw [a2 i x Mf hx]
     congr 2;omega
   ·rw [a3];have:Yn (q :: r)=Yn r:=by unfold Yn;rw [List.filter_cons,if_neg G9]
    exact Ua
namespace Ex
theorem Jmx {l:List Va} {x:Ex} {r:List Ex} (h:(typL l (x :: r)).2=0):(typ l x).2=0/\(typL l r).2=0:=by
 simp only [typL] at h
 by_cases hx:(typ l x).2=0
 ·rw [if_pos hx] at h;refine⟨hx,?_⟩;unfold Ku at h
  by_cases hr:(typL l r).2=0
  ·exact hr
  ·rw [if_neg hr] at h;exact absurd h hr
 ·rw [if_neg hx] at h;exact absurd h hx
theorem Jh2 {L:List Va} : ∀(r:List Ex),(∀x∈r,(typ L x).2=0->∀l s,s∈named l x->s∈l\/(K7 L s).2=true)->(typL L r).2=0->∀l s,s∈namedL l r->s∈l\/(K7 L s).2=true
 | [],_,_,l,s,hs=> .inl (by simpa [namedL] using hs)
 | x :: r,h,ht,l,s,hs=>by
  obtain⟨h1,h2⟩:=Jmx ht;rw [namedL] at hs
  rcases Jh2 r (fun y hy=>h y F0) h2 _ s hs with h3|h3
  ·exact h x Ul h1 l s h3
  ·exact .inr h3
theorem named_found {L:List Va} (e:Ex):(typ L e).2=0->∀l s,s∈named l e->s∈l\/(K7 L s).2=true:=by
 induction e using ind with
 | h e ih=>
  intro ht l s hs;rw [typ_eq] at ht
  by_cases hr:(typL L e.sub).2=0
  ·rw [if_pos hr] at ht;rw [named_eq] at hs
   rcases Jh2 e.sub ih hr _ s hs with h1|h1
   ·unfold Yw at h1
    by_cases he:e.name.toList.isEmpty=true
    ·rw [if_pos he] at h1;exact .inl h1
    ·rw [if_neg he] at h1
     by_cases hh:Ka l e.name=true
     ·rw [if_pos hh] at h1;exact .inl h1
     ·rw [if_neg hh] at h1
      rcases List.mem_append.1 h1 with h2|h2
      ·exact .inl h2
      ·obtain rfl:s=e.name:=Lg
       right
       unfold Y2 at ht
       cases hf:(K7 L e.name).2
       ·rw [if_pos ⟨Ta,hf⟩] at ht;exact absurd ht Ux
       ·exact Gd
   ·exact .inr h1
  ·rw [if_neg hr] at ht;exact absurd ht hr
end Ex
theorem Jiq {L:List Va} {e:Ex} (h:(e.typ L).2=0) {s:ByteArray} (hs:s∈Kx e):∃v∈L,v.name=s:=by
 have hf:(K7 L s).2=true:=by
  unfold Kx at hs
  split at hs
  ·simp at hs
  ·rcases Ex.named_found e h [] s hs with h1|h1
   ·simp at h1
   ·exact h1
 unfold K7 at hf
 cases hv:Qi L s with
 | none=>rw [hv] at hf;simp at hf
 | some j=>
  obtain⟨k,v,_,hk,hn⟩:=Zi hv;exact⟨v,Ni hk,hn⟩
theorem Xp {p:Pr} (h:J7 p=(0,0,0)):Qw p=true/\(∀(i j:Nat) (u v:Va),(Je p)[i]?=some u->(Je p)[j]?=some v->u.name=v.name->i=j)/\∀q∈p.eqs,(q.e.typ (Je p)).2=0:=by
 unfold J7 at h
 by_cases he:K5 p≠0
 ·rw [if_pos he] at h;simp at h
 rw [if_neg he] at h
 by_cases hb:8<p.ins.length\/8<p.outs.length\/24<(Je p).length
 ·rw [if_pos hb] at h;simp at h
 rw [if_neg hb] at h;have jn:=Z5 (Decidable.not_not.1 he);unfold Jhl at h
 cases hd:Jah (Je p) 0 (Je p) with
 | some k=>rw [hd] at h;simp at h
 | none=>
 rw [hd] at h;simp only at h;unfold Jkn at h
 cases hq:(Zy (Je p) p.ins.length 0 (fun _=>none) p.eqs).1 with
 | some k=>rw [hq] at h;simp at h
 | none=>
 have re:=Jg7 _ _ hd;refine⟨jn,fun i j u v hi hj hn=>?_,fun q kB=>?_⟩
 ·have h1:=re i u hi;have h2:=re j v hj;rw [hn,h2] at h1;exact Ua
 ·obtain⟨d',hd'⟩:=(Jfq _ _ _ hq).2.1 q kB;obtain⟨j,_,_,_,h4,_⟩:=Jhb hd';exact h4
theorem Jjd {L:List Va} : ∀(r:List Va) (k:Nat),Yy L k r=none->∀v∈r,Yc L v=0
 | [],_,_,v,hv=>by simp at hv
 | u :: r,k,h,v,hv=>by
  rw [Yy] at h
  by_cases hc:Yc L u≠0
  ·rw [if_pos hc] at h;cases h
  ·rw [if_neg hc] at h
   rcases List.mem_cons.1 hv with rfl|hv
   ·exact Decidable.not_not.1 hc
   ·exact Jjd r (k+1) h v hv
theorem Xk {p:Pr} (h:Qg p=(0,0,0)):J7 p=(0,0,0)/\∀v∈Je p,Yc (Je p) v=0:=by
 unfold Qg at h
 by_cases hc:J7 p≠(0,0,0)
 ·rw [if_pos hc] at h;exact absurd h hc
 rw [if_neg hc] at h;refine⟨Decidable.not_not.1 hc,?_⟩;unfold Jgx at h
 cases hv:Yy (Je p) 0 (Je p) with
 | some k=>rw [hv] at h;simp at h
 | none=>exact Jjd _ _ hv
theorem Jpm {s:ByteArray} : ∀ {r:List Qe} {q:Qe},q∈r->q.name=s->1<=cnt s r
 | [],q,h,_=>Lt
 | x :: r,q,h,hn=>by
  rw [cnt]
  rcases List.mem_cons.1 h with rfl|h
  ·rw [if_pos hn];omega
  ·have:=Jpm h hn;omega
theorem Jix:∀(l:List Qe),(∀q∈l,cnt q.name l<=1)->l.Pairwise (fun a b=>a.name≠b.name)
 | [],_=>List.Pairwise.nil
 | q :: r,h=>by
  refine List.pairwise_cons.2 ⟨fun b hb hn=>?_,Jix r fun x hx=>?_⟩
  ·have h1:=h q Ul;rw [cnt,if_pos rfl] at h1;have:=Jpm hb hn.symm;exact Ua
  ·have h1:=h x Fz;rw [cnt] at h1;exact Ua
theorem Jmb {l:List Qe} (h:l.Pairwise (fun a b=>a.name≠b.name)) {i j:Nat} {a b:Qe} (hi:l[i]?=some a) (hj:l[j]?=some b) (hn:a.name=b.name):i=j:=by
 rw [List.pairwise_iff_getElem] at h;obtain⟨dN,dR⟩:=Nh hi;obtain⟨hj1,hj2⟩:=Nh hj
 rcases Nat.lt_trichotomy i j with am|he|am
 ·exact absurd (by rw [dR,hj2];exact hn) (h i j dN hj1 am)
 ·exact he
 ·exact absurd (by rw [dR,hj2];exact hn.symm) (h j i hj1 dN am)
theorem Jbe {p:Pr} (h:J7 p=(0,0,0)):p.eqs.Pairwise (fun a b=>a.name≠b.name)/\(∀q∈p.eqs,q.name ∉ p.ins.map (·.name))/\∀v∈Je p,v.name∈p.ins.map (·.name)\/∃q∈p.eqs,q.name=v.name:=by
 obtain⟨_,hb,_⟩:=Jyb h
 have nj:∀q∈p.eqs,∃(j:Nat) (v:Va),(Je p)[j]?=some v/\v.name=q.name:=by
  intro q hq;obtain⟨j,hj⟩:=Jf5 h q hq;obtain⟨k,v,_,hk,hn⟩:=Zi hj;exact⟨k,v,hk,hn⟩
 refine⟨Jix _ fun q hq=>?_,fun q hq hm=>?_,fun v hv=>?_⟩
 ·obtain⟨j,v,hj,hn⟩:=nj q hq;rw [<-hn,hb j v hj]
  split <;> omega
 ·rw [List.mem_map] at hm;obtain⟨v,hv,hn⟩:=hm;obtain⟨i,hi⟩:=List.getElem?_of_mem hv;have am:i<p.ins.length:=(Nh hi).1
  have dR:(Je p)[i]?=some v:=by
   unfold Je;rw [List.append_assoc,List.getElem?_append_left am];exact hi
  have:=hb i v dR;rw [if_pos am] at this;have h2:=Jpm hq hn.symm;exact Ua
 ·obtain⟨i,hi⟩:=List.getElem?_of_mem hv
  by_cases am:i<p.ins.length
  ·left
   have:p.ins[i]?=some v:=by
    unfold Je at hi;rw [List.append_assoc,List.getElem?_append_left am] at hi;exact hi
   exact List.mem_map.2 ⟨v,Ni this,rfl⟩
  ·right
   have h1:=hb i v hi;rw [if_neg am] at h1;refine Classical.byContradiction fun oG=>?_;have:=Jkj (s:=v.name) (r:=p.eqs) fun q hq hn=>oG ⟨q,hq,hn⟩;exact Ua
theorem Jnr {s:ByteArray} : ∀(L:List Va) (c:Int×ByteArray),(∀v∈L,v.name≠s)->L.foldl (fun c v=>if s.data=v.name.data then(v.ck,v.cn) else c) c=c
 | [],c,_=>rfl
 | v :: L,c,h=>by
  rw [List.foldl_cons,if_neg,Jnr L c fun u hu=>h u Sw];intro hd;exact h v Ul (by ext1;exact hd.symm)
theorem Jm7 {s:ByteArray} : ∀(L:List Va) (c:Int×ByteArray),(∀(i j:Nat) (u v:Va),L[i]?=some u->L[j]?=some v->u.name=v.name->i=j)->L.foldl (fun c v=>if s.data=v.name.data then(v.ck,v.cn) else c) c=match Xb L s with|some v=>(v.ck,v.cn)|none=>c
 | [],c,_=>rfl
 | v :: L,c,h=>by
  have h':∀(i j:Nat) (u x:Va),L[i]?=some u->L[j]?=some x->u.name=x.name->i=j:=fun i j u x hi hj hn=>by
   have:=h (i+1) (j+1) u x Mf Sg hn;exact Ua
  rw [List.foldl_cons,Xb]
  by_cases hs:v.name=s
  ·rw [if_pos (by rw [hs]),if_pos (by rw [Zf];exact hs),Jnr];intro u hu hn;obtain⟨i,hi⟩:=List.getElem?_of_mem hu;have:=h 0 (i+1) v u rfl Mf (by rw [hs,hn]);exact Ua
  ·rw [if_neg (fun hd=>hs (by ext1;exact hd.symm)),if_neg (by rw [Zf];exact hs),Jm7 L c h']
theorem Jdd {v:Va} {b:Bool} (h:Ke v b=true):(v.ck=0/\v.cn.toList.isEmpty=true)\/(v.ck≠0/\v.cn.toList.isEmpty=false):=by
 simp only [Ke,Bool.and_eq_true] at h;have h3:=h.2
 by_cases h0:v.ck=0
 ·rw [if_pos h0] at h3;exact .inl ⟨h0,h3⟩
 ·rw [if_neg h0] at h3
  by_cases h1:v.ck=1\/v.ck=2
  ·rw [if_pos h1,Bool.and_eq_true] at h3;exact .inr ⟨h0,Jbx h3.2⟩
  ·rw [if_neg h1] at h3;simp at h3
theorem Jsf {p:Pr} (h:Qw p=true):∀v∈Je p,(v.ck=0/\v.cn.toList.isEmpty=true)\/(v.ck≠0/\v.cn.toList.isEmpty=false):=by
 simp only [Qw,Bool.and_eq_true,List.all_eq_true] at h;intro v hv;simp only [Je,List.mem_append] at hv
 rcases hv with (hv|hv)|hv
 ·exact Jdd (h.1.1.1.2 v hv)
 ·exact Jdd (h.1.1.2 v hv)
 ·exact Jdd (h.1.2 v hv)
theorem Ja3 {p:Pr} (h:Qg p=(0,0,0)) {q:Qe} (hq:q∈p.eqs):∃v∈Je p,Xb (Je p) q.name=some v/\v.name=q.name/\J9 (Je p) q.name=(v.ck,v.cn)/\((v.ck=0/\v.cn.toList.isEmpty=true)\/(v.ck≠0/\v.cn.toList.isEmpty=false/\∃u∈Je p,u.name=v.cn)):=by
 obtain⟨hc,dy⟩:=Xk h;obtain⟨jn,gG,htyp⟩:=Xp hc;obtain⟨j,hj⟩:=Jf5 hc q hq;obtain⟨k,v,_,hk,hf⟩:=Jgq _ _ 0 j hj;obtain⟨hm,hn⟩:=Jem hf;have eu:v.name=q.name:=by rw [<-Zf,beq_iff_eq];exact hn
 refine⟨v,hm,hf,eu,?_,?_⟩
 ·unfold J9;rw [Jm7 _ _ gG,hf]
 ·rcases Jsf jn v hm with h1|⟨h1,h2⟩
  ·exact .inl h1
  ·refine .inr ⟨h1,h2,?_⟩;have hd:=dy v hm;unfold Yc at hd;have aN:¬K9 v.ck v.cn 0 ⟨#[]⟩=true:=fun e=>h1 (Jdg.1 e).1;rw [if_neg aN] at hd
   cases hu:Xb (Je p) v.cn with
   | none=>rw [hu] at hd;simp at hd
   | some u=>
    obtain⟨hu1,hu2⟩:=Jem hu;exact⟨u,hu1,by rw [<-Zf,beq_iff_eq];exact hu2⟩
theorem Jui {p:Pr} (h:Qg p=(0,0,0)) {q:Qe} (hq:q∈p.eqs) (R:List ByteArray):(Z1 (Je p) q).all (Ka R)=(ofR (Je p) q).all (Ka R):=by
 obtain⟨v,hm,hf,hn,bO,nk⟩:=Ja3 h hq;unfold Z1 ofR;rw [bO,hf];dsimp only;unfold Yw
 rcases nk with ⟨h1,h2⟩|⟨h1,h2,_⟩
 ·rw [if_pos h1,if_pos h2]
 ·rw [if_neg h1,h2,if_neg Ul]
  by_cases hh:Ka (Kx q.e) v.cn=true
  ·rw [if_pos hh,List.all_append,Bool.eq_iff_iff];simp only [Bool.and_eq_true,List.all_eq_true];refine⟨fun a=>a.1,fun a=>⟨a,fun s hs=>?_⟩⟩;obtain rfl:s=v.cn:=Mx;exact a _ (Jbk.1 hh)
  ·rw [if_neg hh]
theorem Jjh {p:Pr} (h:Qg p=(0,0,0)) {q:Qe} (hq:q∈p.eqs) {s:ByteArray} (hs:s∈Z1 (Je p) q):∃v∈Je p,v.name=s:=by
 obtain⟨v,hm,hf,hn,bO,nk⟩:=Ja3 h hq;have ht:=(Xp (Xk h).1).2.2 q hq;unfold Z1 at hs;rw [bO] at hs;dsimp only at hs
 rcases nk with ⟨h1,h2⟩|⟨h1,h2,u,hu,gG⟩
 ·rw [if_pos h1] at hs;exact Jiq ht hs
 ·rw [if_neg h1] at hs
  rcases List.mem_append.1 hs with h3|h3
  ·exact Jiq ht h3
  ·obtain rfl:s=v.cn:=Sz;exact⟨u,hu,gG⟩
theorem Jsg {p:Pr} (h:J7 p=(0,0,0)):(∀(i:Nat) (q:Qe),p.eqs[i]?=some q->((Yt 0 (fun _=>none) 0 p.eqs).1 q.name=some (i:Int)<->Ka (Yj p) q.name=false))/\
  (∀v∈Je p,((Yt 0 (fun _=>none) 0 p.eqs).1 v.name).isSome=!Ka (Yj p) v.name)/\(Yt 0 (fun _=>none) 0 p.eqs).2=Yn p.eqs:=by
 obtain⟨xj,dV,dE⟩:=Jbe h;obtain⟨a1,a2,a3⟩:=Jim p.eqs 0 (fun _=>none) 0 xj (fun _ _=>rfl);generalize Yt 0 (fun _=>none) 0 p.eqs=W at *
 have dS:∀(i:Nat) (q:Qe),p.eqs[i]?=some q->q.delay=0->W.1 q.name=some (i:Int)/\Ka (Yj p) q.name=false:=by
  intro i q hi hd;refine⟨by rw [a2 i q hi hd,Nat.zero_add],?_⟩;rw [Jb5];unfold Yj;rw [List.mem_append,not_or];refine⟨dV q (Ni hi),fun hm=>?_⟩;obtain⟨x,hx,rd,xm⟩:=Jdq.1 hm;obtain⟨j,hj⟩:=List.getElem?_of_mem hx;obtain rfl:=Jmb xj hj hi xm;rw [hi] at hj;obtain rfl:q=x:=by injection hj
  exact rd hd
 have ek:∀(i:Nat) (q:Qe),p.eqs[i]?=some q->q.delay≠0->W.1 q.name=none/\Ka (Yj p) q.name=true:=by
  intro i q hi hd;refine⟨?_,?_⟩
  ·rw [a1 q.name fun x hx rd hn=>?_];obtain⟨j,hj⟩:=List.getElem?_of_mem hx;obtain rfl:=Jmb xj hj hi hn;rw [hi] at hj;obtain rfl:q=x:=by injection hj
   exact hd rd
  ·rw [Jbk];unfold Yj;rw [List.mem_append];exact .inr (Jdq.2 ⟨q,Ni hi,hd,rfl⟩)
 refine⟨fun i q hi=>?_,fun v hv=>?_,by rw [a3];omega⟩
 ·by_cases hd:q.delay=0
  ·obtain⟨h1,h2⟩:=dS i q hi hd;rw [h1,h2];simp
  ·obtain⟨h1,h2⟩:=ek i q hi hd;rw [h1,h2];simp
 ·rcases dE v hv with hm|⟨q,hq,hn⟩
  ·rw [a1 v.name fun x hx _ hn=>dV x hx (by rw [hn];exact hm)];have:Ka (Yj p) v.name=true:=by rw [Jbk];unfold Yj;exact List.mem_append.2 (.inl hm)
   rw [this];rfl
  ·obtain⟨i,hi⟩:=List.getElem?_of_mem hq;rw [<-hn]
   by_cases hd:q.delay=0
   ·obtain⟨h1,h2⟩:=dS i q hi hd;rw [h1,h2];rfl
   ·obtain⟨h1,h2⟩:=ek i q hi hd;rw [h1,h2];rfl
def Jdx (p:Pr):List Int×(Int×Int×Int):=Jj9 (Z1 (Je p)) p.eqs (Yt 0 (fun _=>none) 0 p.eqs).2 (Yt 0 (fun _=>none) 0 p.eqs).1 (Yt 0 (fun _=>none) 0 p.eqs).2 []
theorem Jtf {p:Pr} (h:Qg p=(0,0,0)):Jdx p=Jbo p:=by
 obtain⟨h1,h2,h3⟩:=Jsg (Xk h).1;unfold Jdx Jbo;rw [h3];refine Jue (fun q hq R=>Jui h hq R) (Yn p.eqs) _ _ _ _ Ul h1 fun q hq s hs=>?_;obtain⟨v,hv,rfl⟩:=Jjh h hq hs;exact h2 v hv
theorem Jmi {α:Type} : ∀(l m:List α),l.Nodup->(∀x∈l,x∈m)->l.length<=m.length
 | [],m,_,_=>Np
 | x :: l,m,hn,h=>by
  obtain⟨s,t,rfl⟩:=List.append_of_mem (h x Ul);obtain⟨h1,h2⟩:=List.nodup_cons.1 hn
  have:=Jmi l (s ++ t) h2 fun y hy=>by
   have:=h y F0;simp only [List.mem_append,List.mem_cons] at this ⊢
   rcases this with h3|h3|h3
   ·exact .inl h3
   ·exact absurd (h3 ▸ hy) h1
   ·exact .inr h3
  simp only [Nk,Nl] at this ⊢;exact Ua
theorem Jfx {R:List ByteArray} {nd:Qe->List ByteArray} : ∀(l:List Qe) (k:Nat),¬(Yd R nd k l).2<0->∃(i:Nat) (q:Qe),(Yd R nd k l).2=((k+i:Nat):Int)/\l[i]?=some q/\Ka R q.name=false/\(nd q).all (Ka R)=true
 | [],k,h=>by simp [Yd] at h
 | q :: r,k,h=>by
  rw [Yd] at h ⊢
  by_cases hb:Ka R q.name=true
  ·rw [if_pos hb] at h ⊢;obtain⟨i,x,h1,h2,h3⟩:=Jfx r (k+1) h;exact⟨i+1,x,by rw [h1];congr 1;omega,Lg,h3⟩
  ·rw [if_neg hb] at h ⊢;dsimp only at h ⊢
   by_cases ha:(nd q).all (Ka R)=true
   ·rw [if_pos ha];exact⟨0,q,rfl,rfl,by simpa using hb,ha⟩
   ·rw [if_neg ha] at h ⊢;obtain⟨i,x,h1,h2,h3⟩:=Jfx r (k+1) h;exact⟨i+1,x,by rw [h1];congr 1;omega,Lg,h3⟩
theorem Jgb {R:List ByteArray} {nd:Qe->List ByteArray} : ∀(l:List Qe) (k:Nat),(Yd R nd k l).2<0->(∀q∈l,Ka R q.name=false->(nd q).all (Ka R)=false)/\((∃q∈l,Ka R q.name=false)->∃(i:Nat) (q:Qe),(Yd R nd k l).1=((k+i:Nat):Int)/\l[i]?=some q/\Ka R q.name=false)
 | [],k,h=>⟨Ul,Ul⟩
 | q :: r,k,h=>by
  rw [Yd] at h ⊢
  by_cases hb:Ka R q.name=true
  ·rw [if_pos hb] at h ⊢;obtain⟨h1,h2⟩:=Jgb r (k+1) h;refine⟨fun x hx rf=>?_,fun xn=>?_⟩
   ·rcases List.mem_cons.1 hx with rfl|hx
    ·rw [hb] at rf;cases rf
    ·exact h1 x hx rf
   ·obtain⟨x,hx,rf⟩:=xn
    rcases List.mem_cons.1 hx with rfl|hx
    ·rw [hb] at rf;cases rf
    ·obtain⟨i,y,e1,e2,e3⟩:=h2 ⟨x,hx,rf⟩;exact⟨i+1,y,by rw [e1];congr 1;omega,by simpa using e2,e3⟩
  ·rw [if_neg hb] at h ⊢;dsimp only at h ⊢
   by_cases ha:(nd q).all (Ka R)=true
   ·rw [if_pos ha] at h;omega
   ·rw [if_neg ha] at h;obtain⟨h1,h2⟩:=Jgb r (k+1) h;refine⟨fun x hx rf=>?_,fun _=>⟨0,q,rfl,rfl,by simpa using hb⟩⟩
    rcases List.mem_cons.1 hx with rfl|hx
    ·simpa using ha
    ·exact h1 x hx rf
def Joc (R0:List ByteArray) (nd:Qe->List ByteArray) (eqs:List Qe) (i:Nat) (j:Int) (l:List Int):Prop:=
 0<=j/\∃q,eqs[j.toNat]?=some q/\q.name ∉ R0 ++ (l.take i).map (Za eqs)/\∀s∈nd q,s∈R0 ++ (l.take i).map (Za eqs)
theorem Jkx {nd:Qe->List ByteArray} {eqs:List Qe} {left:Nat} {R0:List ByteArray} : ∀(t:Nat) (R:List ByteArray) (out:List Int),out.length+t=left->R=R0 ++ out.map (Za eqs)->(∀(i:Nat) (j:Int),out[i]?=some j->Joc R0 nd eqs i j out)->
  (∃res,Jfk nd eqs left t R out=(res,(0,0,0))/\res.length=left/\∀(i:Nat) (j:Int),res[i]?=some j->Joc R0 nd eqs i j res)\/
  (∃out',Jfk nd eqs left t R out=([],(3,(Yd (R0 ++ out'.map (Za eqs)) nd 0 eqs).1,22))/\out'.length<left/\(Yd (R0 ++ out'.map (Za eqs)) nd 0 eqs).2<0/\∀(i:Nat) (j:Int),out'[i]?=some j->Joc R0 nd eqs i j out')
 | 0,R,out,ht,hR,hg=> .inl ⟨out,rfl,Ua,hg⟩
 | t+1,R,out,ht,hR,hg=>by
  rw [Jfk,if_pos Ua]
  by_cases hn:(Yd R nd 0 eqs).2<0
  ·rw [if_pos hn]
   right
   subst hR;exact⟨out,rfl,Ua,hn,hg⟩
  ·rw [if_neg hn];obtain⟨j,q,h1,h2,h3,h4⟩:=Jfx eqs 0 hn;rw [Nat.zero_add] at h1;have hname:Za eqs (j:Int)=q.name:=by unfold Za;rw [Int.toNat_natCast,h2]
   rw [h1];refine Jkx t _ _ Uj (by rw [hR,List.map_append,List.append_assoc];rfl) fun i x hi=>?_
   rcases Nat.lt_trichotomy i out.length with am|he|am
   ·rw [List.getElem?_append_left am] at hi;have:=hg i x hi;unfold Joc at this ⊢;rw [List.take_append_of_le_length Ua];exact this
   ·subst he;rw [List.getElem?_append_right (Ns _),Nat.sub_self] at hi;obtain rfl:(j:Int)=x:=Mf;refine⟨Ua,q,by rw [Int.toNat_natCast];exact h2,?_,?_⟩
    ·rw [List.take_left' rfl,<-hR];exact Jb5.1 h3
    ·rw [List.take_left' rfl,<-hR];intro s hs;exact Jbk.1 (List.all_eq_true.1 h4 s hs)
   ·rw [List.getElem?_eq_none Uj] at hi
    cases hi
theorem Jms {eqs:List Qe} {j:Int} {q:Qe} (h:eqs[j.toNat]?=some q):Za eqs j=q.name:=by unfold Za;rw [h]
theorem Jqy {p:Pr} (h:J7 p=(0,0,0)):((p.eqs.filter (fun q=>q.delay == 0)).map (·.name)).Nodup:=by
 unfold List.Nodup;rw [List.pairwise_map];exact(Jbe h).1.filter _
theorem Jrq {p:Pr} (h:J7 p=(0,0,0)) {nd:Qe->List ByteArray} {out:List Int} (hl:out.length<Yn p.eqs):∃q∈p.eqs,Ka (Yj p ++ out.map (Za p.eqs)) q.name=false:=by
 refine Classical.byContradiction fun oG=>?_
 have eF:∀q∈p.eqs,q.name∈Yj p ++ out.map (Za p.eqs):=fun q hq=>by
  rw [<-Jbk]
  cases hb:Ka (Yj p ++ out.map (Za p.eqs)) q.name
  ·exact absurd ⟨q,hq,hb⟩ oG
  ·exact Gd
 have h1:=Jmi _ (out.map (Za p.eqs)) (Jqy h) fun s hs=>by
  rw [List.mem_map] at hs;obtain⟨q,hq,rfl⟩:=hs;rw [List.mem_filter] at hq;obtain⟨i,hi⟩:=List.getElem?_of_mem hq.1;obtain⟨xj,dV,_⟩:=Jbe h
  rcases List.mem_append.1 (eF q hq.1) with h2|h2
  ·exfalso
   unfold Yj at h2
   rcases List.mem_append.1 h2 with h3|h3
   ·exact dV q hq.1 h3
   ·obtain⟨x,hx,rd,xm⟩:=Jdq.1 h3;obtain⟨j,hj⟩:=List.getElem?_of_mem hx;obtain rfl:=Jmb xj hj hi xm;rw [hi] at hj;obtain rfl:q=x:=by injection hj
    exact rd (by simpa using hq.2)
  ·exact h2
 rw [List.length_map,List.length_map] at h1;unfold Yn at hl;exact Ua
theorem Jw0 {p:Pr} {l:List ByteArray} {q:Qe} (hq:q∈p.eqs) (h:q.name ∉ Yj p ++ l):q.delay=0:=by
 refine Classical.byContradiction fun hd=>h ?_;refine List.mem_append.2 (.inl ?_);unfold Yj;exact List.mem_append.2 (.inr (Jdq.2 ⟨q,hq,hd,rfl⟩))
theorem Jiu {p:Pr} (h:J7 p=(0,0,0)) :
  (∃res,Jbo p=(res,(0,0,0))/\res.length=Yn p.eqs/\∀(i:Nat) (j:Int),res[i]?=some j->Joc (Yj p) (ofR (Je p)) p.eqs i j res)\/
  (∃(out:List Int) (at':Nat) (q:Qe),Jbo p=([],(3,(at':Int),22))/\p.eqs[at']?=some q/\q.name ∉ Yj p ++ out.map (Za p.eqs)/\q.delay=0/\∀x∈p.eqs,x.name ∉ Yj p ++ out.map (Za p.eqs)->¬ ∀s∈ofR (Je p) x,s∈Yj p ++ out.map (Za p.eqs)):=by
 rcases Jkx (nd:=ofR (Je p)) (eqs:=p.eqs) (left:=Yn p.eqs) (R0:=Yj p) (Yn p.eqs) (Yj p) [] Ul Ul Ul with ⟨res,h1,h2,h3⟩|⟨out,h1,h2,h3,_⟩
 ·exact .inl ⟨res,h1,h2,h3⟩
 ·right
  obtain⟨s1,s2⟩:=Jgb p.eqs 0 h3;obtain⟨i,q,e1,e2,e3⟩:=s2 (Jrq (nd:=ofR (Je p)) h h2);rw [Nat.zero_add] at e1;refine⟨out,i,q,by unfold Jbo;rw [h1,e1],e2,Jb5.1 e3,Jw0 (Ni e2) (Jb5.1 e3),fun x hx hn eF=>?_⟩;have:=s1 x hx (Jb5.2 hn);rw [<-Bool.not_eq_true] at this;exact this (List.all_eq_true.2 fun s hs=>Jbk.2 (eF s hs))
def J1 (p:Pr):List Int×(Int×Int×Int):=if Qg p=(0,0,0) then Jbo p else([],Qg p)
end Go.Proofs.YtknfcamdfdfoeaaGreatDoor
