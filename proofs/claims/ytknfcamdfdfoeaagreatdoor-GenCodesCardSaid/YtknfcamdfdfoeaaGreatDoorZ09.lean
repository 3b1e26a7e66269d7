/- Lemmas. -/
import Derived.Test.YtknfcamdfdfoeaaGreatDoorMac
import Derived.Test.YtknfcamdfdfoeaaGreatDoorZ03
import Derived.Test.YtknfcamdfdfoeaaGreatDoorZ08
import Derived.Test.YtknfcamdfdfoeaaGreatDoorZ04
import Derived.Test.YtknfcamdfdfoeaaGreatDoorZ05
set_option linter.unusedVariables false
set_option linter.unusedSimpArgs false
set_option maxRecDepth 100000
set_option maxHeartbeats 64000000
namespace Go.Proofs.YtknfcamdfdfoeaaGreatDoor
open Go.RowKit
theorem Jgq:∀(l:List Va) (s:ByteArray) (i j:Int),Xf l s i=some j->∃(k:Nat) (v:Va),j=i+k/\l[k]?=some v/\Xb l s=some v
 | [],_,_,_,h=>by simp [Xf] at h
 | v :: l,s,i,j,h=>by
  unfold Xf at h
  by_cases hs:s.data=v.name.data
  ·rw [if_pos hs] at h;have hj:i=j:=by injection h
   have he:v.name=s:=by ext1;exact hs.symm
   exact⟨0,v,Ua,rfl,by rw [Xb,if_pos];rw [he];simp⟩
  ·rw [if_neg hs] at h;obtain⟨k,u,h1,h2,h3⟩:=Jgq l s (i+1) j h;refine⟨k+1,u,Ua,Lg,?_⟩;rw [Xb,if_neg,h3];rw [Zf];intro he;exact hs (by rw [he])
theorem Y5 (l:List Va) (s:ByteArray):(Jp l s = -1/\Xb l s=none)\/∃(k:Nat) (v:Va),Jp l s=(k:Int)/\l[k]?=some v/\Xb l s=some v:=by
 unfold Jp Qi
 cases h:Xf l s 0 with
 | none=>exact .inl ⟨rfl,Jks l s 0 h⟩
 | some j=>
  obtain⟨k,v,h1,h2,h3⟩:=Jgq l s 0 j h;exact .inr ⟨k,v,by simp only [Option.getD_some];omega,h2,h3⟩
def Jcp (k:Int) (s:ByteArray) (v:Va):Int×ByteArray:=if k=3 then(v.ck,v.cn) else if k=8 then(1,s) else if k=9 then(2,s) else(0,⟨#[]⟩)
def Jec (l:List Va) (k:Int) (s:ByteArray) (c:Int×ByteArray):Int:=
 if s.toList.isEmpty=true then 0
 else match Xb l s with
  | none=>19
  | some v=>if K9 c.1 c.2 (Jcp k s v).1 (Jcp k s v).2=false then 21 else if k≠3/\K9 v.ck v.cn 0 ⟨#[]⟩=false then 21 else 0
theorem Jtz (a:Int) (s:ByteArray) (b:Int) (t:ByteArray):K9 a s b t=K9 b t a s:=by
 rw [Bool.eq_iff_iff,Jdg,Jdg];exact⟨fun h=>⟨h.1.symm,h.2.symm⟩,fun h=>⟨h.1.symm,h.2.symm⟩⟩
theorem Jx7 {l:List Va} {e:Ex} (hf:e.formed=true) (c:Int×ByteArray):Jec l e.kind e.name c=Jac l e.kind e.name c.1 c.2:=by
 unfold Jec
 rcases Jh0 hf with ⟨hk,hn⟩|⟨⟨h3,h8,h9,bM⟩,hn⟩
 ·rw [Jbx hn,if_neg Ul];unfold Jac Jaw Jcp
  cases Xb l e.name with
  | none=>rcases hk with hk|hk|hk|hk <;> simp [hk]
  | some v=>
   rcases hk with hk|hk|hk|hk
   ·simp only [hk,if_pos];rw [Jtz v.ck v.cn c.1 c.2]
    cases K9 c.1 c.2 v.ck v.cn <;> simp
   ·simp only [hk]
    cases h1:K9 c.1 c.2 1 e.name <;> cases h2:K9 v.ck v.cn 0 ⟨#[]⟩ <;> simp [h1]
   ·simp only [hk]
    cases h1:K9 c.1 c.2 2 e.name <;> cases h2:K9 v.ck v.cn 0 ⟨#[]⟩ <;> simp [h1]
   ·simp only [hk]
    cases h1:K9 c.1 c.2 0 ⟨#[]⟩ <;> cases h2:K9 v.ck v.cn 0 ⟨#[]⟩ <;> simp [h1]
 ·rw [hn,if_pos rfl];unfold Jac;rw [if_neg h3,if_neg h8,if_neg h9,if_neg bM]
def K4 (k:Int) (s:ByteArray) (c:Int×ByteArray) (i:Nat):Int×ByteArray:=if k=10 then(1+(i:Int),s) else if k=8\/k=9 then(0,⟨#[]⟩) else c
def Jf7 (l:List Va) (k:Int) (s:ByteArray) (c:Int×ByteArray):Nat->List Ex->Int
 | _,[]=>0
 | i,x :: r=>if x.clk l (K4 k s c i)≠0 then x.clk l (K4 k s c i) else Jf7 l k s c (i+1) r
theorem Jx5 {l:List Va} {e:Ex} (hf:e.formed=true) (c:Int×ByteArray):Ex.clkL l e.sub (Jb3 e.kind e.name c) (Ja0 e.kind e.name c)=Jf7 l e.kind e.name c 0 e.sub:=by
 by_cases hk:e.kind=10
 ·have hl:=Jfj hf hk
  match h:e.sub,hl with
  | [x,y],_=>
   simp only [Ex.clkL,Jf7,Jb3,Ja0,K4,hk];simp
 ·have aT:Jb3 e.kind e.name c=Ja0 e.kind e.name c:=by unfold Jb3 Ja0;rw [if_neg hk,if_neg hk]
  have hw:∀i,K4 e.kind e.name c i=Ja0 e.kind e.name c:=fun i=>by unfold K4 Ja0;rw [if_neg hk,if_neg hk]
  rw [aT]
  have:∀(r:List Ex) (i:Nat),Ex.clkL l r (Ja0 e.kind e.name c) (Ja0 e.kind e.name c)=Jf7 l e.kind e.name c i r:=by
   intro r
   induction r with
   | nil=>intro i;simp [Ex.clkL,Jf7]
   | cons x r ih=>intro i;rw [Ex.clkL,Jf7,hw i,ih (i+1)]
  exact this _ 0
theorem Jxr {l:List Va} {e:Ex} (hf:e.formed=true) (c:Int×ByteArray):e.clk l c=if Jec l e.kind e.name c≠0 then Jec l e.kind e.name c else Jf7 l e.kind e.name c 0 e.sub:=by
 rw [Ex.clk_eq,Jx7 hf,Jx5 hf]
end Go.Proofs.YtknfcamdfdfoeaaGreatDoor
namespace Go.Proofs.YtknfcamdfdfoeaaGreatDoor
open Go.RowKit Go.Sort
def ofR (L:List Va) (q:Qe):List ByteArray:=match Xb L q.name with|some v=>Yw (Kx q.e) v.cn|none=>Kx q.e
theorem Jmt (e:Ex):(Kx e).length<=e.size:=by
 unfold Kx
 split
 ·exact Ul
 ·have:=(Ex.named_len e []).2;simpa using this
theorem Jo0 (p:Pr) (a:PrA) (i:Nat) (q:Qe) (w:World) (hp:Kr w p a) (vM:p.eqs[i]?=some q) (hz:q.e.size<=1000000)
  (n1:p.ins.length<=1000000) (n2:p.outs.length<=1000000) (n3:p.locals.length<=1000000) (n4:p.eqs.length<=1000000) :
  Calls Tryz.prog 55 #[prV p a,.int .i64 i] w fun r w'=>(∃v,r = .returned v/\w'.ownsRow w.heap.size 9 1 v (ofR (Je p) q).length ((ofR (Je p) q).map .string))/\Below w.heap.size w w':=by
 have aJ:=fun W h=>Z3 p a W (hp.later h) n1 n2 n3;have ap:=fun A cap W h=>Xa (Je p) A cap q.name W h;have kC:i<p.eqs.length:=(List.getElem?_eq_some_iff.1 vM).1;have bT:=hp.eqs;have hv:ofR (Je p) q=ofR (Je p) q:=rfl;rw (occs:= .pos [2]) [ofR] at hv;have jV:=Jmt q.e;obtain⟨A1,c1,A2,c2,A3,c3,A4,c4⟩:=a;unfold prV at *;dsimp only at *;obtain⟨b,off,E1,k1,E2,k2,rfl,aH,⟨g0,g1,g2,g3,g4,g5,g6,g7,g8,g9,s1,s2⟩⟩:=bT.get vM;have cG:=bT.len;unfold maxLen at cG;obtain⟨fT,fU⟩:=cG;have fP:=fun W h=>Joq q.e E2 k2 W (s2.later h) hz;clear hp vM g1 g2 g3 g4 g5 s1;have jU:b<w.heap.size+1:=Ua;generalize hL:Je p=L at *;clear hL;generalize hN:Kx q.e=nd at *;clear hN;unfold exV at *
 rcases Y5 L q.name with ⟨cL,eB⟩|⟨k,v,cL,hx,eB⟩
 ·rw [eB] at hv;rw [cL] at ap;dsimp only at hv;clear cL eB;have HV:=Lib.hid hv;clear hv
  go_enter Tryz.func55,Tryz.ntmps55
  go_wp2_with (first|(go_at_call 26;refine(aJ _ Jb).mono ?_;rintro r wb ⟨⟨A,cap,rfl,ae⟩,bG⟩;have el:=Jg bG;have dH:=bG.size;(try simp at dH);have cA:w.heap.size<wb.heap.size:=Ua;have oa:b<wb.heap.size:=Ua;have cR:=Ju.of_own ae;have ng:=cR.len;unfold maxLen at ng;obtain⟨vN,vO⟩:=ng;clear ae)|(go_at_call 87;refine(fP _ Jb).mono ?_;rintro r wn ⟨⟨vn,rfl,ay⟩,dI⟩;obtain⟨An,cn,rfl,eR,eu⟩:=Jv ay;have qJ:=Jg dI;have qp:=dI.size;(try simp at qp);have xa:w.heap.size<wn.heap.size:=Ua;have qq:b<wn.heap.size:=Ua)|(go_at_call 49;refine(ap _ _ _ (cR.later Jb)).mono ?_;rintro r wf ⟨rfl,bZ⟩;have hcf:=Jg bZ;have eq:=bZ.size;(try simp at eq);have rU:w.heap.size<wf.heap.size:=Ua;have vP:b<wf.heap.size:=Ua)|(go_at_call 54;go_loud (refine(Yu nd _ _ v.cn _ ((Qf.of_own ay).later Jb)).mono ?_;rw [HH.out];rintro r wh ⟨rfl,dX⟩;have fJ:=Jg dX;have nX:=dX.size;have iZ:w.heap.size<wh.heap.size:=Ua;have vQ:bv<wh.heap.size:=Ua))|(at_builtin;go_loud (refine K6 rfl (.tmp 47) (.tmp 54) 121 rfl wb.heap.size 9 _ 1 16 Tryz.underlying121 Zq rfl Ua _ nd.length (nd.map .string) (some ⟨wh.heap.size,0,none⟩) 1 1 [.string v.cn] rfl (Js (Jy (Jy ay bZ) dX)) rfl ⟨rfl,fun _=>⟨_,_,rfl,fun j u hj=>Fu⟩⟩ Uv Ua Ua Uj ?_;intro v9 w9 dL nh)))
  go_ret;exact⟨⟨_,rfl,by rw [HV.out];exact K8 (Jy ay bZ) Ua⟩,Jb⟩
 ·rw [eB] at hv;rw [cL] at ap;dsimp only at hv;have fR:k<L.length:=(List.getElem?_eq_some_iff.1 hx).1;have le:(k:Int)<(L.length:Int):=Ua;have tk1:(0:Int)<=(k:Int):=Ua;clear cL eB;have cQ:Yw nd v.cn=Yw nd v.cn:=rfl;rw (occs:= .pos [2]) [Yw] at cQ
  cases aL:v.cn.toList.isEmpty
  case true=>
   rw [aL,if_pos rfl] at cQ;rw [cQ] at hv;clear cQ;have HV:=Lib.hid hv;clear hv
   go_enter Tryz.func55,Tryz.ntmps55
   go_wp2_with (first|(go_at_call 26;refine(aJ _ Jb).mono ?_;rintro r wb ⟨⟨A,cap,rfl,ae⟩,bG⟩;have el:=Jg bG;have dH:=bG.size;(try simp at dH);have cA:w.heap.size<wb.heap.size:=Ua;have oa:b<wb.heap.size:=Ua;have cR:=Ju.of_own ae;have ng:=cR.len;unfold maxLen at ng;obtain⟨vN,vO⟩:=ng;clear ae)|(go_at_call 87;refine(fP _ Jb).mono ?_;rintro r wn ⟨⟨vn,rfl,ay⟩,dI⟩;obtain⟨An,cn,rfl,eR,eu⟩:=Jv ay;have qJ:=Jg dI;have qp:=dI.size;(try simp at qp);have xa:w.heap.size<wn.heap.size:=Ua;have qq:b<wn.heap.size:=Ua)|(go_at_call 49;refine(ap _ _ _ (cR.later Jb)).mono ?_;rintro r wf ⟨rfl,bZ⟩;have hcf:=Jg bZ;have eq:=bZ.size;(try simp at eq);have rU:w.heap.size<wf.heap.size:=Ua;have vP:b<wf.heap.size:=Ua;(obtain⟨bv,ov,rfl,dB,⟨d0,d1,d2,d3⟩⟩:=cR.get hx;have hbvn:bv<wn.heap.size:=Ua;have hbvf:bv<wf.heap.size:=Ua))|(go_at_call 54;go_loud (refine(Yu nd _ _ v.cn _ ((Qf.of_own ay).later Jb)).mono ?_;rw [HH.out];rintro r wh ⟨rfl,dX⟩;have fJ:=Jg dX;have nX:=dX.size;have iZ:w.heap.size<wh.heap.size:=Ua;have vQ:bv<wh.heap.size:=Ua))|(at_builtin;go_loud (refine K6 rfl (.tmp 47) (.tmp 54) 121 rfl wb.heap.size 9 _ 1 16 Tryz.underlying121 Zq rfl Ua _ nd.length (nd.map .string) (some ⟨wh.heap.size,0,none⟩) 1 1 [.string v.cn] rfl (Js (Jy (Jy ay bZ) dX)) rfl ⟨rfl,fun _=>⟨_,_,rfl,fun j u hj=>Fu⟩⟩ Uv Ua Ua Uj ?_;intro v9 w9 dL nh)))
   go_ret;exact⟨⟨_,rfl,by rw [HV.out];exact K8 (Jy ay bZ) Ua⟩,Jb⟩
  rw [aL,if_neg Ul] at cQ
  cases hh:Ka nd v.cn
  case true=>
   rw [hh,if_pos rfl] at cQ;rw [cQ] at hv;clear cQ;have HV:=Lib.hid hv;clear hv;have HH:=Lib.hid hh;clear hh
   go_enter Tryz.func55,Tryz.ntmps55
   go_wp2_with (first|(go_at_call 26;refine(aJ _ Jb).mono ?_;rintro r wb ⟨⟨A,cap,rfl,ae⟩,bG⟩;have el:=Jg bG;have dH:=bG.size;(try simp at dH);have cA:w.heap.size<wb.heap.size:=Ua;have oa:b<wb.heap.size:=Ua;have cR:=Ju.of_own ae;have ng:=cR.len;unfold maxLen at ng;obtain⟨vN,vO⟩:=ng;clear ae)|(go_at_call 87;refine(fP _ Jb).mono ?_;rintro r wn ⟨⟨vn,rfl,ay⟩,dI⟩;obtain⟨An,cn,rfl,eR,eu⟩:=Jv ay;have qJ:=Jg dI;have qp:=dI.size;(try simp at qp);have xa:w.heap.size<wn.heap.size:=Ua;have qq:b<wn.heap.size:=Ua)|(go_at_call 49;refine(ap _ _ _ (cR.later Jb)).mono ?_;rintro r wf ⟨rfl,bZ⟩;have hcf:=Jg bZ;have eq:=bZ.size;(try simp at eq);have rU:w.heap.size<wf.heap.size:=Ua;have vP:b<wf.heap.size:=Ua;(obtain⟨bv,ov,rfl,dB,⟨d0,d1,d2,d3⟩⟩:=cR.get hx;have hbvn:bv<wn.heap.size:=Ua;have hbvf:bv<wf.heap.size:=Ua))|(go_at_call 54;go_loud (refine(Yu nd _ _ v.cn _ ((Qf.of_own ay).later Jb)).mono ?_;rw [HH.out];rintro r wh ⟨rfl,dX⟩;have fJ:=Jg dX;have nX:=dX.size;have iZ:w.heap.size<wh.heap.size:=Ua;have vQ:bv<wh.heap.size:=Ua))|(at_builtin;go_loud (refine K6 rfl (.tmp 47) (.tmp 54) 121 rfl wb.heap.size 9 _ 1 16 Tryz.underlying121 Zq rfl Ua _ nd.length (nd.map .string) (some ⟨wh.heap.size,0,none⟩) 1 1 [.string v.cn] rfl (Js (Jy (Jy ay bZ) dX)) rfl ⟨rfl,fun _=>⟨_,_,rfl,fun j u hj=>Fu⟩⟩ Uv Ua Ua Uj ?_;intro v9 w9 dL nh)))
   go_ret;exact⟨⟨_,rfl,by rw [HV.out];exact K8 (Jy (Jy ay bZ) dX) Ua⟩,Jb⟩
  rw [hh,if_neg Ul] at cQ;rw [cQ] at hv;clear cQ;have HV:=Lib.hid hv;clear hv;have HH:=Lib.hid hh;clear hh
  go_enter Tryz.func55,Tryz.ntmps55
  go_wp2_with (first|(go_at_call 26;refine(aJ _ Jb).mono ?_;rintro r wb ⟨⟨A,cap,rfl,ae⟩,bG⟩;have el:=Jg bG;have dH:=bG.size;(try simp at dH);have cA:w.heap.size<wb.heap.size:=Ua;have oa:b<wb.heap.size:=Ua;have cR:=Ju.of_own ae;have ng:=cR.len;unfold maxLen at ng;obtain⟨vN,vO⟩:=ng;clear ae)|(go_at_call 87;refine(fP _ Jb).mono ?_;rintro r wn ⟨⟨vn,rfl,ay⟩,dI⟩;obtain⟨An,cn,rfl,eR,eu⟩:=Jv ay;have qJ:=Jg dI;have qp:=dI.size;(try simp at qp);have xa:w.heap.size<wn.heap.size:=Ua;have qq:b<wn.heap.size:=Ua)|(go_at_call 49;refine(ap _ _ _ (cR.later Jb)).mono ?_;rintro r wf ⟨rfl,bZ⟩;have hcf:=Jg bZ;have eq:=bZ.size;(try simp at eq);have rU:w.heap.size<wf.heap.size:=Ua;have vP:b<wf.heap.size:=Ua;(obtain⟨bv,ov,rfl,dB,⟨d0,d1,d2,d3⟩⟩:=cR.get hx;have hbvn:bv<wn.heap.size:=Ua;have hbvf:bv<wf.heap.size:=Ua))|(go_at_call 54;go_loud (refine(Yu nd _ _ v.cn _ ((Qf.of_own ay).later Jb)).mono ?_;rw [HH.out];rintro r wh ⟨rfl,dX⟩;have fJ:=Jg dX;have nX:=dX.size;have iZ:w.heap.size<wh.heap.size:=Ua;have vQ:bv<wh.heap.size:=Ua))|(at_builtin;go_loud (refine K6 rfl (.tmp 47) (.tmp 54) 121 rfl wb.heap.size 9 _ 1 16 Tryz.underlying121 Zq rfl Ua _ nd.length (nd.map .string) (some ⟨wh.heap.size,0,none⟩) 1 1 [.string v.cn] rfl (Js (Jy (Jy ay bZ) dX)) rfl ⟨rfl,fun _=>⟨_,_,rfl,fun j u hj=>Fu⟩⟩ Uv Ua Ua Uj ?_;intro v9 w9 dL nh)))
  go_ret;exact⟨⟨_,rfl,by rw [HV.out,List.map_append,List.length_append];exact K8 dL Ua⟩,Jn (a:=w) Jb nh Ua⟩
def Jcf (c:Int×ByteArray):Value:= .agg #[.int .i64 c.1,.string c.2]
def J9 (L:List Va) (s:ByteArray):Int×ByteArray:=L.foldl (fun c v=>if s.data=v.name.data then(v.ck,v.cn) else c) (0,⟨#[]⟩)
def Jkd (f:ByteArray->Option Value) (L:List Va):Prop:=∀s,(f s).getD (Jcf (0,⟨#[]⟩))=Jcf (J9 L s)
theorem Jo8:Jkd (fun _=>none) []:=fun s=>rfl
theorem Jmq {f:ByteArray->Option Value} {L:List Va} (h:Jkd f L) (v:Va):Jkd (Jki f v.name (Jcf (v.ck,v.cn))) (L ++ [v]):=by
 intro s;unfold J9 Jki;rw [List.foldl_append];simp only [List.foldl_cons,List.foldl_nil]
 by_cases hs:s.data=v.name.data
 ·rw [if_pos hs,if_pos hs];rfl
 ·rw [if_neg hs,if_neg hs];exact h s
theorem Jfz (w:World):(zeroValue 55).run Tryz.prog w = .ok (Jcf (0,⟨#[]⟩)) w:=Ug
def Z1 (L:List Va) (q:Qe):List ByteArray:=if (J9 L q.name).1=0 then Kx q.e else Kx q.e ++ [(J9 L q.name).2]
theorem Qn {a b c:World} {row:Option Nat} (h1:a.grownBy b row) (h2:b.grownBy c row):a.grownBy c row:=Yz h1 h2 (.inl rfl)
theorem Jzj:(Tryz.prog.info? 121).map (fun i=>(i.zero,i.size,i.bytes))=some (some (.slice none 0 0),1,24):=Ug
theorem Qf.off_own {w:World} {base:Nat} {e:TypeId} {l:List ByteArray} {A:Option Addr} {cap:Nat} (h:w.ownsRow base e 1 (.slice A l.length cap) l.length (l.map .string)):Off base none w (fun V=>Qf V l A cap):=by
 intro w' jC
 rcases Nat.eq_zero_or_pos l.length with h0|h0
 ·exact⟨(Qf.of_own h).1,(Qf.of_own h).2.1,fun hl=>absurd hl Ua⟩
 ·obtain⟨g,c',hv,hg,am,h1,h2,hc⟩:=Kc h h0;injection hv with e1 e2 e3;subst e1 e3;refine⟨h1,h2,fun _=>⟨g,0,rfl,fun k s hk=>?_⟩⟩;rw [Nat.zero_add];exact Jr (jC g hg am Ul) (hc k _ L6)
def Jde (L:List Va) (eqs:List Qe) (g k:Nat) (w:World) (xs:List Value):Prop:=
 (∀(j:Nat) (q:Qe),j<k->eqs[j]?=some q->∃A cap,xs[j]?=some (.slice A (Z1 L q).length cap)/\Off (g+1) none w (fun V=>Qf V (Z1 L q) A cap))/\∀j,k<=j->j<eqs.length->xs[j]?=some (.slice none 0 0)
theorem Jt6 {w w':World} {base size n n' cap g:Nat} {e:TypeId} {xs:List Value} (h:w.ownsRow base e size (.slice (some ⟨g,0,none⟩) n' cap) n xs) (hb:w'.heap[g]?=w.heap[g]?):w'.ownsRow base e size (.slice (some ⟨g,0,none⟩) n' cap) n xs:=by
 obtain⟨h1,h2⟩:=h;refine⟨h1,?_⟩
 rcases h2 with h2|⟨g',cap',cur,hv,hg,hh,r⟩
 ·exact .inl h2
 ·refine .inr ⟨g',cap',cur,hv,hg,?_,r⟩;have hgg:g=g':=by injection hv with e1;injection e1 with e1;injection e1
  rw [<-hgg] at hh ⊢;rw [hb];exact hh
theorem Jde.step {L:List Va} {eqs:List Qe} {g k:Nat} {w w':World} {xs:List Value} {q:Qe} {A:Option Addr} {cap:Nat} (h:Jde L eqs g k w xs) (hw:∀b,g+1<=b->b<w.heap.size->w'.heap[b]?=w.heap[b]?) (hz:w.heap.size<=w'.heap.size)
  (hq:eqs[k]?=some q) (hx:k<xs.length) (fb:Off (g+1) none w' (fun V=>Qf V (Z1 L q) A cap)):Jde L eqs g (k+1) w' (xs.set k (.slice A (Z1 L q).length cap)):=by
 refine⟨fun j q' hj tt=>?_,fun j hj hl=>?_⟩
 ·rcases Nat.lt_or_ge j k with tB|tB
  ·obtain⟨A',cap',h1,h2⟩:=h.1 j q' tB tt;exact⟨A',cap',by rw [List.getElem?_set_ne Ua];exact h1,h2.grow (fun b hb am _=>hw b hb am) hz (.inl rfl)⟩
  ·obtain rfl:j=k:=Ua;obtain rfl:q=q':=by rw [hq] at tt;injection tt
   exact⟨A,cap,by rw [List.getElem?_set_self hx],fb⟩
 ·rw [List.getElem?_set_ne Ua];exact h.2 j Ua hl
theorem Jsz (p:Pr) (a:PrA) (w:World) (hp:Kr w p a) (n1:p.ins.length<=1000000) (n2:p.outs.length<=1000000) (n3:p.locals.length<=1000000) (n4:p.eqs.length<=1000000) (hs:∀v∈Je p,v.name.size<=maxLen) (dn:∀q∈p.eqs,q.name.size<=maxLen/\q.e.OK/\q.e.size<=1000000) :
  Calls Tryz.prog 46 #[prV p a] w fun r w'=>(∃g xs,r = .returned (.slice (some ⟨g,0,none⟩) p.eqs.length p.eqs.length)/\w.heap.size<=g/\w'.ownsRow g 121 1 (.slice (some ⟨g,0,none⟩) p.eqs.length p.eqs.length) p.eqs.length xs/\Jde (Je p) p.eqs g p.eqs.length w' xs)/\Below w.heap.size w w':=by
 have aJ:=fun W h=>Jcv p a W (hp.later h) n1 n2 n3;have hL3:(Je p).length<=3000000:=by simp [Je];omega
 obtain⟨A1,c1,A2,c2,A3,c3,A4,c4⟩:=a;unfold prV at *;dsimp only at *;have gI:=@run_makeMap Tryz.prog;generalize hL:Je p=L at *;clear hL;have HS:=Lib.hid hs;clear hs;have jR:=Lib.hid dn;clear dn;have bT:=hp.eqs;have cG:=hp.eqs.len;unfold maxLen at cG;dsimp only at bT cG;obtain⟨fT,fU⟩:=cG;obtain⟨ti,hti0,hti1,hti2,hti3⟩:=info_parts Jzj;clear hp
 go_enter Tryz.func46,Tryz.ntmps46
 go_wp2_with (first|(go_at_call 42;refine(aJ _ Jb).mono ?_;rintro r wb ⟨⟨A,cap,rfl,ae⟩,aH⟩;have el:=Jg aH;have dH:=aH.size;(try simp at dH);have cA:w.heap.size<wb.heap.size:=Ua;have ep:w.heap.size+1<wb.heap.size:=Ua;have cR:=Ju.of_own ae))
 refine Jo fun W0 ag=>?_;have ax:Below w.heap.size w W0:=Uo;have bD:w.heap.size+1<W0.heap.size:=by rw [ag];exact ep
 have bE:Off (w.heap.size+2) none W0 (fun W=>Ju W L A cap):=by rw [ag];have:=Ju.off_own' ae;simpa using this
 have eU:Jaz Tryz.prog 9 W0 (w.heap.size+1) 0 (fun _=>none):=by
  rw [ag];have h1:=(Jaz.made (P:=Tryz.prog) (k:=9) (w.alloc (.cells #[.string p.name,.slice A1 p.ins.length c1,.slice A2 p.outs.length c2,.slice A3 p.locals.length c3,.slice A4 p.eqs.length c4] 25)));have h2:=h1.bel aH;exact Lg
 have p4:W0.cell? ⟨w.heap.size,4,none⟩=some (.slice A4 p.eqs.length c4):=Uc;have cY:=bE.here.len;unfold maxLen at cY;obtain⟨fH,fI⟩:=cY;clear ag ae cR el aH dH cA ep aJ gI
 go_loopw [14] (fun i wr=>∃(k n:Nat) (f:ByteArray->Option Value),k<=L.length/\i = .int .i64 k/\n<=k/\Hid (Jaz Tryz.prog 9 wr (w.heap.size+1) n f)/\Hid (Jkd f (L.take k))/\Hid (W0.grownBy wr (some (w.heap.size+1)))) (fun i _=>L.length-(intOf i).toNat)
 case atStart=>exact⟨0,0,_,Nat.zero_le _,rfl,Nat.le_refl _,Lib.hid eU,Lib.hid Jo8,Lib.hid ⟨rfl,rfl,rfl,Nat.le_refl _,fun _ _ _=>rfl⟩⟩
 case round=>
  obtain⟨k,n,f,hk,rfl,hn,hm,aN,bB⟩:=hrel;have eC:=bB.out.size
  by_cases am:k<L.length
  ·have hx:L[k]?=some L[k]:=List.getElem?_eq_getElem am;have aj:L[k]∈L:=List.getElem_mem am;have aP:L.take (k+1)=L.take k ++ [L[k]]:=U6;generalize L[k]=x at hx aj aP;have jg:Ju wr L A cap:=bE wr fun b h1 h2 _=>bB.out.block b h2 Vc;obtain⟨b,off,rfl,aH,⟨d0,d1,d2,d3⟩⟩:=jg.get hx;have dT:=HS.out x aj;have jy:=Lib.hid (by rw [aP];exact Jmq aN.out x:Jkd (Jki f x.name (Jcf (x.ck,x.cn))) (L.take (k+1)));have ej:=hm.out;have bu:w.heap.size+1<wr.heap.size:=Ua;clear hx aj aP jg aN
   go_wp2_with (first|(at_mapUpdate;go_loud (refine Jlj rfl (.tmp 18) (.tmp 20) (.tmp 22) 69 rfl Tryz.underlying9 Tryz.underlying69 (w.heap.size+1) n f x.name (Jcf (x.ck,x.cn)) rfl (ej.keep1 (heap_alloc_old _ _ bu)) Ua rfl rfl dT ?_;intro w2 cI aG;have kj:=Lib.hid cI;have kr:=Lib.hid aG;clear cI aG)))
   go_roundw
   case rel=>exact⟨k+1,n+1,_,Ua,Up,Ua,kj,jy,Lib.hid (Qn bB.out (Qn (World.grownBy_alloc wr _ _) kr.out))⟩
   case measure=>simp [intOf];omega
  ·obtain rfl:k=L.length:=Ua;have iw:=hm.out;have mB:=aN.out;rw [List.take_length] at mB;have jy:=Lib.hid mB;have ez:=bB.out;have aC:Below w.heap.size w wr:=J2 ax ez (fun b hb=>U1) Ua;have q4:wr.cell? ⟨w.heap.size,4,none⟩=some (.slice A4 p.eqs.length c4):=Jr (ez.block w.heap.size Ua Vc) p4;have bu:w.heap.size+1<wr.heap.size:=Ua;clear bB ez aN mB hm p4 bE
   go_wp2_with (first|(at_make;go_loud (refine wpList_make_full _ rfl (.tmp 26) (.tmp 26) 117 rfl wr.heap.size 121 ti _ 1 Tryz.underlying117 hti0 hti1 hti2 .i64 .i64 p.eqs.length p.eqs.length p.eqs.length rfl rfl rfl rfl (by rw [hti3];omega) U2 (Nat.le_refl _) ?_;intro w2 ao aG;have q42:w2.cell? ⟨w.heap.size,4,none⟩=some (.slice A4 p.eqs.length c4):=Jr (aG.block w.heap.size Ua Ul) q4;have sK:=Lib.hid ao;have kr:=Lib.hid aG;clear ao aG)))
   obtain⟨Wa,rfl⟩:∃Wa,Wa=wr:=⟨wr,rfl⟩;have iY:Below w.heap.size w w2:=J2 aC kr.out (fun b hb=>by simp at hb) Ua;have br:Wa.heap.size<=w2.heap.size:=kr.out.size;have cI:Hid (Jaz Tryz.prog 9 w2 (w.heap.size+1) n f):=Lib.hid (iw.keep1 (kr.out.block _ Ua Ul));clear iw q4
   go_loopw [31] (fun i wr=>∃(k:Nat) (xs:List Value),k<=p.eqs.length/\i = .int .i64 k/\Hid (wr.ownsRow Wa.heap.size 121 1 (.slice (some ⟨Wa.heap.size,0,none⟩) p.eqs.length p.eqs.length) p.eqs.length xs)/\Hid (Jde L p.eqs Wa.heap.size k wr xs)/\Hid (w2.grownBy wr (some Wa.heap.size))) (fun i _=>p.eqs.length-(intOf i).toNat)
   case atStart=>
    refine⟨0,_,Nat.zero_le _,rfl,sK,Lib.hid ⟨fun j q hj=>absurd hj Ua,fun j _ hj=>?_⟩,Lib.hid ⟨rfl,rfl,rfl,Nat.le_refl _,fun _ _ _=>rfl⟩⟩;rw [show(Value.slice none 0 0).cells = #[Value.slice none 0 0] from rfl,Nat.mul_one,toList_madeCells_one,List.getElem?_replicate,if_pos hj]
   case round=>
    obtain⟨k,xs,hk,rfl,ae,vE,bB⟩:=hrel;have eC:=bB.out.size;have dh:Below w.heap.size w wr:=J2 iY bB.out (fun b hb=>U1) Ua;have hGlt:Wa.heap.size<wr.heap.size:=(ae.out.lt Wa.heap.size rfl).2
    by_cases am:k<p.eqs.length
    ·obtain⟨q,hx,-,hd⟩:=Kl am;obtain⟨b,off,B1,n1,B2,n2,rfl,aH,⟨g0,g1,g2,g3,g4,g5,g6,g7,g8,g9,s1,s2⟩⟩:=(bT.later dh).get hx;have aj:=List.mem_of_getElem? hx;obtain⟨dw,gV,ju⟩:=jR.out q aj;have fP:=fun W h=>Jvk q.e B2 n2 W (s2.later h) gV ju;have e0:wr.cell? ⟨Wa.heap.size,k,none⟩=some (.slice none 0 0):=(ae.out.cellAt k Ua).trans (vE.out.2 k (Nat.le_refl _) am);have f0:wr.frozen? ⟨Wa.heap.size,k,none⟩=false:=ae.out.frozenAt k;have ej:=cI.out.keep1 (bB.out.block (w.heap.size+1) Ua Vc);obtain⟨ck,cs,bO⟩:∃ck cs,J9 L q.name=(ck,cs):=⟨_,_,rfl⟩;have mK:=Lib.hid bO;clear bO;have HX:=Lib.hid hx;have yf:w.heap.size+1<wr.heap.size:=Ua;unfold exV at fP;clear hd hx aj gV;have lB:xs.length=p.eqs.length:=by have:=ae.out.1;omega
     have HXL:=Lib.hid lB;clear lB
     by_cases ob:ck=0
     ·have t1:(ck != 0)=false:=by simpa using ob
      have hnq:Z1 L q=Kx q.e:=by unfold Z1;rw [mK.out,if_pos ob]
      have HNQ:=Lib.hid hnq;clear hnq ob
      go_wp2_with (first|(go_at_call 79;go_loud (refine(fP _ Jb).mono ?_;rintro r wn ⟨⟨vn,rfl,ay⟩,dI⟩;obtain⟨An,cn,rfl,eR,eu⟩:=Jv ay;have qJ:=Jg dI;have lF:=Jf dI;have qp:wr.heap.size+1<=wn.heap.size:=(by have:=dI.size;simpa using this);have xa:w.heap.size<wn.heap.size:=Ua;have hyn1:w.heap.size+1<wn.heap.size:=Ua;have qq:wr.heap.size<wn.heap.size:=Ua;have hyn3:Wa.heap.size<wn.heap.size:=Ua;have hmn:=Lib.hid (ej.keep1 ((dI.block (w.heap.size+1) Uj).trans (heap_alloc_old _ _ yf)));have jZ:=Lib.hid ay;clear ay))|(at_lookup;go_loud (refine Jel rfl (.tmp 42) (.tmp 44) 69 rfl Tryz.underlying9 Tryz.underlying69 (Jcf (0,⟨#[]⟩)) (Jfz _) (w.heap.size+1) n f q.name rfl (hmn.out.keep1 (heap_setCell_other _ _ _ _ (by show w.heap.size+1≠Wa.heap.size;omega))) rfl dw ?_;rw [jy.out q.name,mK.out];unfold Jcf)))
      go_roundw
      case rel=>
       have qr:=Jy (Js (o:= .cells #[.string q.name,.int .i64 q.delay,.int .i64 q.first.kind,.int .i32 q.first.n,.string q.first.name,.slice B1 q.first.sub.length n1,.int .i64 q.e.kind,.int .i32 q.e.n,.string q.e.name,.slice B2 q.e.sub.length n2] 53) ae.out) dI;have cP:=qr.stored k (.slice An (Kx q.e).length cn);refine⟨k+1,xs.set k (.slice An (Kx q.e).length cn),Ua,Up,Lib.hid (Js cP.1),Lib.hid ?_,Lib.hid (Qn (Qn (Qn (Qn bB.out (World.grownBy_alloc wr _ _)) (Jat dI)) cP.2) (World.grownBy_alloc _ _ _))⟩
       have fb:Off (Wa.heap.size+1) none ((wn.setCell ⟨Wa.heap.size,k,none⟩ (.slice An (Kx q.e).length cn)).alloc (.cells #[.int .i64 ck,.string cs] 55)) (fun V=>Qf V (Z1 L q) An cn):=by
        rw [HNQ.out];exact((Qf.off_own jZ.out).less (base:=Wa.heap.size+1) Uj).grow (fun b ac aq _=>(heap_alloc_old _ _ (by simpa using aq)).trans (heap_setCell_other _ _ _ _ Sr)) Ul (.inl rfl)
       have:=vE.out.step (w':=(wn.setCell ⟨Wa.heap.size,k,none⟩ (.slice An (Kx q.e).length cn)).alloc (.cells #[.int .i64 ck,.string cs] 55)) (fun b ac aq=>(heap_alloc_old _ _ Uj).trans ((heap_setCell_other _ _ _ _ Sr).trans ((dI.block b Uj).trans (heap_alloc_old _ _ aq)))) Uj HX.out (by rw [HXL.out];exact am) fb;rw [HNQ.out] at this;exact this
      case measure=>simp [intOf];omega
     ·have t1:(ck != 0)=true:=by simpa using ob
      have hnq:Z1 L q=Kx q.e ++ [cs]:=by unfold Z1;rw [mK.out,if_neg ob]
      have HNQ:=Lib.hid hnq;clear hnq ob;have jV:=Jmt q.e
      go_wp2_with (first|(go_at_call 79;go_loud (refine(fP _ Jb).mono ?_;rintro r wn ⟨⟨vn,rfl,ay⟩,dI⟩;obtain⟨An,cn,rfl,eR,eu⟩:=Jv ay;have qJ:=Jg dI;have lF:=Jf dI;have qp:wr.heap.size+1<=wn.heap.size:=(by have:=dI.size;simpa using this);have xa:w.heap.size<wn.heap.size:=Ua;have hyn1:w.heap.size+1<wn.heap.size:=Ua;have qq:wr.heap.size<wn.heap.size:=Ua;have hyn3:Wa.heap.size<wn.heap.size:=Ua;have hmn:=Lib.hid (ej.keep1 ((dI.block (w.heap.size+1) Uj).trans (heap_alloc_old _ _ yf)));have jZ:=Lib.hid ay;clear ay))|(at_lookup;go_loud (refine Jel rfl (.tmp 42) (.tmp 44) 69 rfl Tryz.underlying9 Tryz.underlying69 (Jcf (0,⟨#[]⟩)) (Jfz _) (w.heap.size+1) n f q.name rfl (hmn.out.keep1 (heap_setCell_other _ _ _ _ (by show w.heap.size+1≠Wa.heap.size;omega))) rfl dw ?_;rw [jy.out q.name,mK.out];unfold Jcf)))
      have jI:wn.ownsRow (wr.heap.size+1) 9 1 (.slice An (Kx q.e).length cn) (Kx q.e).length ((Kx q.e).map .string):=by have:=jZ.out;simpa using this
      have hownX:((wn.setCell ⟨Wa.heap.size,k,none⟩ (.slice An (Kx q.e).length cn)).alloc (.cells #[.int .i64 ck,.string cs] 55)).ownsRow (wr.heap.size+1) 9 1 (.slice An (Kx q.e).length cn) (Kx q.e).length ((Kx q.e).map .string):=Js (Kn jI (fun b hb=>by have:=(jI.lt b hb).1;omega) _ _);have wk:wn.cell? ⟨Wa.heap.size,k,none⟩=some (.slice none 0 0):=Ja dI (Ja (Jc (Below.refl _ _) _) e0);have wkf:wn.frozen? ⟨Wa.heap.size,k,none⟩=false:=(dI.frozen (p:=⟨Wa.heap.size,k,none⟩) (show Wa.heap.size<_ by simp;omega)).trans (((Jc (Below.refl _ _) _).frozen (p:=⟨Wa.heap.size,k,none⟩) hGlt).trans f0);have xk:((wn.setCell ⟨Wa.heap.size,k,none⟩ (.slice An (Kx q.e).length cn)).alloc (.cells #[.int .i64 ck,.string cs] 55)).cell? ⟨Wa.heap.size,k,none⟩=some (.slice An (Kx q.e).length cn):=Uq;have xf:((wn.setCell ⟨Wa.heap.size,k,none⟩ (.slice An (Kx q.e).length cn)).alloc (.cells #[.int .i64 ck,.string cs] 55)).frozen? ⟨Wa.heap.size,k,none⟩=false:=Uq;have XK:=Lib.hid xk;have XF:=Lib.hid xf;clear xk xf;have hrz:wr.heap.size+1<=wn.heap.size:=qp
      go_region_law (first
       | (refine Jg1 rfl (.tmp 54) (.tmp 57) 121 rfl (wr.heap.size+1) 9 _ 1 16 Tryz.underlying121 Zq rfl Ua (.slice An (Kx q.e).length cn) (Kx q.e).length ((Kx q.e).map .string) (some ⟨wn.heap.size+1,0,none⟩) 1 1 [.string cs] rfl (Js (Kp hownX)) rfl ⟨rfl,fun _=>⟨_,_,rfl,fun j u hj=>by rw [Nat.zero_add];exact(Qo Ul).trans Sg⟩⟩ Uv Ua Ua Uj ?_;intro v9 w9 dL nh;go_loud (obtain⟨A9,c9,rfl,hc91,hc92⟩:=Jv dL;have k9:w9.cell? ⟨Wa.heap.size,k,none⟩=some (.slice An (Kx q.e).length cn):=((nh.cell (p:=⟨Wa.heap.size,k,none⟩) (show Wa.heap.size<wr.heap.size+1 by omega)).trans (Ja (Jc (Below.refl _ _) _) (Zw XK.out)));have k9f:w9.frozen? ⟨Wa.heap.size,k,none⟩=false:=((nh.frozen (p:=⟨Wa.heap.size,k,none⟩) (show Wa.heap.size<wr.heap.size+1 by omega)).trans (((Jc (Jh (Below.refl _ _)) _).frozen (p:=⟨Wa.heap.size,k,none⟩) (show Wa.heap.size<_ by simp;omega)).trans XF.out));have HO9:=Lib.hid dL;have HB9:=Lib.hid nh;clear dL nh)))
      all_goals
       go_wp2_with fail
       go_roundw
       case rel=>
        have qr:=Jy (Js (o:= .cells #[.string q.name,.int .i64 q.delay,.int .i64 q.first.kind,.int .i32 q.first.n,.string q.first.name,.slice B1 q.first.sub.length n1,.int .i64 q.e.kind,.int .i32 q.e.n,.string q.e.name,.slice B2 q.e.sub.length n2] 53) ae.out) dI;have cP:=qr.stored k (.slice An (Kx q.e).length cn);have hz9:=HB9.out.size;have gH:wn.heap.size<=w9.heap.size:=by refine Nat.le_trans ?_ hz9;show wn.heap.size<=(World.alloc _ _).heap.size;simp;omega
        have hX:∀b,b<wr.heap.size->w9.heap[b]?=(wn.setCell ⟨Wa.heap.size,k,none⟩ (.slice An (Kx q.e).length cn)).heap[b]?:=fun b hb=>
         (HB9.out.block b Ua).trans ((heap_alloc_old _ _ Uj).trans (heap_alloc_old _ _ Uj))
        have vR:=(Jt6 cP.1 (hX _ hGlt)).stored k (.slice A9 ((Kx q.e).length+1) c9);rw [List.set_set] at vR;have rG:wr.grownBy w9 (some Wa.heap.size):=⟨HB9.out.os.trans dI.os,HB9.out.tape.trans dI.tape,HB9.out.output.trans dI.output,Ua,fun b hb aS=>(hX b hb).trans ((heap_setCell_other _ _ _ _ (by show b≠Wa.heap.size;intro h;exact aS Ti)).trans ((dI.block b Uj).trans (heap_alloc_old _ _ hb)))⟩;have hgf:=Qn rG vR.2;refine⟨k+1,xs.set k (.slice A9 ((Kx q.e).length+1) c9),Ua,Up,Lib.hid vR.1,Lib.hid ?_,Lib.hid (Qn bB.out hgf)⟩
        have fb:Off (Wa.heap.size+1) none (w9.setCell ⟨Wa.heap.size,k,none⟩ (.slice A9 ((Kx q.e).length+1) c9)) (fun V=>Qf V (Z1 L q) A9 c9):=by
         have ho:=HO9.out;rw [HNQ.out];have jm:w9.ownsRow (wr.heap.size+1) 9 1 (.slice A9 (Kx q.e ++ [cs]).length c9) (Kx q.e ++ [cs]).length ((Kx q.e ++ [cs]).map .string):=by rw [List.map_append,List.length_append];exact ho
         exact((Qf.off_own jm).grow (fun b ac aq _=>heap_setCell_other _ _ _ _ Sr) Ul (.inl rfl)).less Ua
        have:=vE.out.step (fun b ac aq=>hgf.block b aq (by intro h;injection h with h;omega)) hgf.size HX.out (by rw [HXL.out];exact am) fb;rw [show(Z1 L q).length=(Kx q.e).length+1 by rw [HNQ.out];simp] at this;exact this
       case measure=>simp [intOf];omega
    ·obtain rfl:k=p.eqs.length:=Ua;have HB:=Lib.hid dh;clear dh
     go_wp2_with fail
     go_ret;exact⟨⟨Wa.heap.size,xs,rfl,Ua,ae.out,vE.out⟩,HB.out⟩
end Go.Proofs.YtknfcamdfdfoeaaGreatDoor
namespace Go.Proofs.YtknfcamdfdfoeaaGreatDoor
open Go.RowKit
def Yd (R:List ByteArray) (nd:Qe->List ByteArray):Nat->List Qe->Int×Int
 | _,[]=>(-1,-1)
 | k,q :: r=>if Ka R q.name=true then Yd R nd (k+1) r else((k:Int),if (nd q).all (Ka R)=true then(k:Int) else(Yd R nd (k+1) r).2)
def Jbi (f:ByteArray->Option Int) (nd:Qe->List ByteArray):Nat->List Qe->Int->Int×Int
 | _,[],m=>(m,-1)
 | k,q :: r,m=>if f q.name=some (k:Int) then(if Jb2 f (nd q)=true then(if m<0 then(k:Int) else m,(k:Int)) else Jbi f nd (k+1) r (if m<0 then(k:Int) else m)) else Jbi f nd (k+1) r m
theorem Jmd {R:List ByteArray} {f:ByteArray->Option Int} {nr np:Qe->List ByteArray} : ∀(l:List Qe) (k:Nat) (m:Int),(m = -1\/0<=m)->
  (∀(i:Nat) (q:Qe),l[i]?=some q->(f q.name=some ((k+i:Nat):Int)<->Ka R q.name=false))->(∀q∈l,Ka R q.name=false->Jb2 f (np q)=(nr q).all (Ka R))->
  (Jbi f np k l m).2=(Yd R nr k l).2/\((Yd R nr k l).2<0->(Jbi f np k l m).1=if m<0 then(Yd R nr k l).1 else m)
 | [],k,m,eU,_,_=>by
  refine⟨rfl,fun _=>?_⟩;simp only [Jbi,Yd]
  by_cases hm:m<0
  ·rw [if_pos hm];omega
  ·rw [if_neg hm]
 | q :: r,k,m,eU,h1,h2=>by
  have hq:=h1 0 q rfl;rw [Nat.add_zero] at hq
  have h1':∀(i:Nat) (q:Qe),r[i]?=some q->(f q.name=some ((k+1+i:Nat):Int)<->Ka R q.name=false):=fun i x hx=>by
   have:=h1 (i+1) x (by simpa using hx)
   rwa [show k+(i+1)=k+1+i from by omega] at this
  have tA:∀x∈r,Ka R x.name=false->Jb2 f (np x)=(nr x).all (Ka R):=fun x hx=>h2 x Fz
  cases hb:Ka R q.name
  ·have hf:=hq.2 hb;have hr:=h2 q Ul hb;rw [Jbi,Yd,if_pos hf,hb,if_neg (show ¬(false=true) by simp),hr]
   cases ha:(nr q).all (Ka R)
   ·rw [if_neg (show ¬(false=true) by simp),if_neg (show ¬(false=true) by simp)];obtain⟨e1,e2⟩:=Jmd r (k+1) (if m<0 then(k:Int) else m) (by split <;> omega) h1' tA;refine⟨e1,fun am=>?_⟩;rw [e2 am]
    by_cases hm:m<0
    ·simp only [if_pos hm];rw [if_neg Ua]
    ·simp only [if_neg hm]
   ·rw [if_pos rfl,if_pos rfl];exact⟨rfl,fun am=>absurd am (by show ¬((k:Int)<0);omega)⟩
  ·have hf:¬f q.name=some (k:Int):=fun h=>by have:=hq.1 h;rw [hb] at this;simp at this
   rw [Jbi,Yd,if_neg hf,hb,if_pos rfl];exact Jmd r (k+1) m eU h1' tA
def Za (eqs:List Qe) (j:Int):ByteArray:=match eqs[j.toNat]? with|some q=>q.name|none=>⟨#[]⟩
def Jfk (nd:Qe->List ByteArray) (eqs:List Qe) (left:Nat):Nat->List ByteArray->List Int->List Int×(Int×Int×Int)
 | 0,_,out=>(out,(0,0,0))
 | t+1,R,out=>if out.length<left then(if (Yd R nd 0 eqs).2<0 then([],(3,(Yd R nd 0 eqs).1,22)) else Jfk nd eqs left t (R ++ [Za eqs (Yd R nd 0 eqs).2]) (out ++ [(Yd R nd 0 eqs).2])) else(out,(0,0,0))
def Jj9 (nd:Qe->List ByteArray) (eqs:List Qe):Nat->(ByteArray->Option Int)->Nat->List Int->List Int×(Int×Int×Int)
 | 0,_,_,out=>(out,(0,0,0))
 | t+1,f,c,out=>if 0<c then(if (Jbi f nd 0 eqs (-1)).2<0 then([],(3,(Jbi f nd 0 eqs (-1)).1,22)) else Jj9 nd eqs t (Jck f (Za eqs (Jbi f nd 0 eqs (-1)).2)) (c-1) (out ++ [(Jbi f nd 0 eqs (-1)).2])) else(out,(0,0,0))
theorem Jgw {s t:ByteArray} : (s.toList == t.toList)=decide (s.data=t.data):=by
 rw [Bool.eq_iff_iff,Zf];simp only [decide_eq_true_eq];exact⟨fun h=>Ti,fun h=>by ext1;exact h⟩
theorem Jqx {f:ByteArray->Option Int} {R:List ByteArray} {s s0:ByteArray} {i:Int} (h:f s=some i<->Ka R s=false):Jck f s0 s=some i<->Ka (R ++ [s0]) s=false:=by
 exact Ubi
theorem Jqd {f:ByteArray->Option Int} {R:List ByteArray} {s s0:ByteArray} (h:(f s).isSome=!Ka R s):(Jck f s0 s).isSome=!Ka (R ++ [s0]) s:=by
 exact Ubi
theorem Jnn {f:ByteArray->Option Int} {R:List ByteArray} : ∀ {l:List ByteArray},(∀s∈l,(f s).isSome=!Ka R s)->Jb2 f l=l.all (Ka R)
 | [],_=>rfl
 | s :: l,h=>by
  have h1:=h s Ul;have h2:=Jnn (l:=l) fun x hx=>h x Fz;unfold Jb2 at h2 ⊢;rw [List.all_cons,List.all_cons,h2,h1,Bool.not_not]
theorem Jue {nr np:Qe->List ByteArray} {eqs:List Qe} {left:Nat} (bW:∀q∈eqs,∀R,(np q).all (Ka R)=(nr q).all (Ka R)):∀(t:Nat) (f:ByteArray->Option Int) (R:List ByteArray) (c:Nat) (out:List Int),
  out.length+c=left->(∀(i:Nat) (q:Qe),eqs[i]?=some q->(f q.name=some (i:Int)<->Ka R q.name=false))->(∀q∈eqs,∀s∈np q,(f s).isSome=!Ka R s)->
  Jj9 np eqs t f c out=Jfk nr eqs left t R out
 | 0,f,R,c,out,_,_,_=>rfl
 | t+1,f,R,c,out,hc,hw,hi=>by
  obtain⟨e1,e2⟩:=Jmd (R:=R) (f:=f) (nr:=nr) (np:=np) eqs 0 (-1) (.inl rfl) (fun i q hq=>by rw [Nat.zero_add];exact hw i q hq) (fun q hq _=>(Jnn (hi q hq)).trans (bW q hq R));rw [Jj9,Jfk,e1]
  by_cases h0:0<c
  ·rw [if_pos h0,if_pos (show out.length<left by omega)]
   by_cases hn:(Yd R nr 0 eqs).2<0
   ·rw [if_pos hn,if_pos hn,e2 hn,if_pos Ua]
   ·rw [if_neg hn,if_neg hn];exact Jue bW t _ _ (c-1) _ Uj (fun i q hq=>Jqx (hw i q hq)) (fun q hq s hs=>Jqd (hi q hq s hs))
  ·rw [if_neg h0,if_neg (show ¬out.length<left by omega)]
def Jb9 (v:Va):ByteArray:=
 if v.ck=1 then(if v.type=2 then v.name ++ ⟨#[32,58,32,98,111,111,108]⟩ else v.name ++ ⟨#[32,58,32,105,110,116]⟩) ++ (⟨#[32,119,104,101,110,32]⟩ ++ v.cn)
 else if v.ck=2 then(if v.type=2 then v.name ++ ⟨#[32,58,32,98,111,111,108]⟩ else v.name ++ ⟨#[32,58,32,105,110,116]⟩) ++ (⟨#[32,117,110,108,101,115,115,32]⟩ ++ v.cn)
 else(if v.type=2 then v.name ++ ⟨#[32,58,32,98,111,111,108]⟩ else v.name ++ ⟨#[32,58,32,105,110,116]⟩)
def Yr:Nat->ByteArray->List Va->ByteArray
 | _,s,[]=>s
 | k,s,v :: l=>Yr (k+1) ((if 0<k then s ++ ⟨#[59,32]⟩ else s) ++ Jb9 v) l
def Y9 (l:List Va):ByteArray:=Yr 0 ⟨#[40]⟩ l ++ ⟨#[41]⟩
def Ym (p:Pr):ByteArray:=⟨#[110,111,100,101,32]⟩ ++ p.name ++ ⟨#[32]⟩ ++ Y9 p.ins ++ ⟨#[32,114,101,116,117,114,110,115,32]⟩ ++ Y9 p.outs ++ ⟨#[59,10]⟩
def Xr:ByteArray->List Va->ByteArray
 | s,[]=>s
 | s,v :: l=>Xr (s ++ (⟨#[32,32]⟩ ++ Jb9 v ++ ⟨#[59,10]⟩)) l
def Jhz (s:ByteArray) (q:Qe):ByteArray:=
 (if q.delay=1 then(s ++ (⟨#[32,32]⟩ ++ q.name ++ ⟨#[32,61,32]⟩)) ++ (q.first.showB ++ ⟨#[32,102,98,121,32]⟩) else if q.delay=2 then(s ++ (⟨#[32,32]⟩ ++ q.name ++ ⟨#[32,61,32]⟩)) ++ ⟨#[112,114,101,32]⟩ else s ++ (⟨#[32,32]⟩ ++ q.name ++ ⟨#[32,61,32]⟩)) ++ (q.e.showB ++ ⟨#[59,10]⟩)
def Zs:ByteArray->List Qe->ByteArray
 | s,[]=>s
 | s,q :: l=>Zs (Jhz s q) l
def Jal (p:Pr):ByteArray:=Zs (Xr (if 0<p.locals.length then Ym p ++ ⟨#[118,97,114,10]⟩ else Ym p) p.locals ++ ⟨#[108,101,116,10]⟩) p.eqs ++ ⟨#[116,101,108,10]⟩
def K5 (p:Pr):Int:=if Qw p=false then 4 else if 4096<(Jal p).size then 3 else 0
def Jb8 (v:Va):Prop:=v.name.size<=16/\v.cn.size<=16
theorem Jc9 {v:Va} (h:Jb8 v):(Jb9 v).size<=60:=by
 obtain⟨h1,h2⟩:=h;unfold Jb9
 repeat' split
 all_goals simp only [Kq,Ko,List.size_toArray,List.length_cons,List.length_nil]
 all_goals omega
theorem Jcl:∀(l:List Va),(∀v∈l,Jb8 v)->∀(k:Nat) (s:ByteArray),(Yr k s l).size<=s.size+62 * l.length
 | [],_,k,s=>by simp [Yr]
 | v :: l,h,k,s=>by
  have h1:=Jc9 (h v Ul);have:=Jcl l (fun x hx=>h x Fz) (k+1) ((if 0<k then s ++ ⟨#[59,32]⟩ else s) ++ Jb9 v);rw [Yr];refine Nat.le_trans this ?_;rw [Kq,List.length_cons]
  split
  ·exact Uk
  ·exact Ua
theorem Jjv {l:List Va} (h:∀v∈l,Jb8 v):(Y9 l).size<=2+62 * l.length:=by
 have:=Jcl l h 0 ⟨#[40]⟩;unfold Y9;simp only [Kq,Ko,List.size_toArray,List.length_cons,List.length_nil] at this ⊢;exact Ua
theorem Jkm {v:Va} {own:Bool} (h:Ke v own=true):Jb8 v:=by
 unfold Ke at h;simp only [Bool.and_eq_true] at h;refine⟨Jaf h.1.1,?_⟩;have h2:=h.2
 split at h2
 ·exact Jgu (.inr h2)
 ·split at h2
  ·simp only [Bool.and_eq_true] at h2;exact Jaf h2.2
  ·simp at h2
theorem X4 {p:Pr} (h:Qw p=true):p.name.size<=16/\(∀v∈p.ins,Jb8 v)/\(∀v∈p.outs,Jb8 v)/\(∀v∈p.locals,Jb8 v)/\∀q∈p.eqs,eqB q=true:=by
 simp only [Qw,Bool.and_eq_true,List.all_eq_true] at h;exact⟨Jaf h.1.1.1.1,fun v hv=>Jkm (h.1.1.1.2 v hv),fun v hv=>Jkm (h.1.1.2 v hv),fun v hv=>Jkm (h.1.2 v hv),h.2⟩
theorem Jaq {q:Qe} (h:eqB q=true):q.name.size<=16/\q.e.formed=true/\q.e.size<=120/\(q.delay=1->q.first.formed=true/\q.first.size<=120)/\(q.delay=0\/q.delay=1\/q.delay=2):=by
 simp only [eqB,Bool.and_eq_true] at h;obtain⟨⟨h1,h2⟩,h3⟩:=h
 have small:∀e:Ex,e.right=0->e.formed=true/\e.size<=120:=by
  intro e he;have:=Ex.right_zero.1 he;have hs:=Ex.count_size e 121 Ua;exact⟨this.2.2,Ua⟩
 have tA:=small q.e Lg;refine⟨Jaf h1,tA.1,tA.2,fun hd=>?_,?_⟩
 ·rw [if_pos hd] at h3;unfold Ex.literal at h3
  split at h3
  ·rename_i hr;exact small _ hr
  ·simp at h3
 ·split at h3
  ·exact Ua
  ·split at h3
   ·exact Ua
   ·simp at h3
end Go.Proofs.YtknfcamdfdfoeaaGreatDoor
