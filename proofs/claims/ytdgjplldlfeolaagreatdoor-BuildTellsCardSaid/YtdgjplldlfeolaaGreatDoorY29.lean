/- Lemmas. -/
import Derived.Test.YtdgjplldlfeolaaGreatDoorMac
import Derived.Test.YtdgjplldlfeolaaGreatDoorY26
import Derived.Test.YtdgjplldlfeolaaGreatDoorY00
set_option linter.unusedVariables false
set_option linter.unusedSimpArgs false
set_option maxRecDepth 100000
set_option maxHeartbeats 64000000
namespace Go.Proofs.YtdgjplldlfeolaaGreatDoor
open Go.RowKit Go.Sort Go.Maps
section
variable (X Bs Bf:Nat) (sl:ByteArray->Int) (fl:Int×ByteArray->Int) (e:Ex)
theorem Jzh (hk:e.kind=10) (hs:1<e.sub.length) (cE:e.size<=200000) (aw:okS e.name) (ih:∀x∈e.sub,Jag X Bs Bf sl fl x):Jag X Bs Bf sl fl e:=by
 intro A cap ck cs w hp he hc;obtain⟨bI,aD⟩:=he.len;unfold maxLen at aD;have hx:e.sub[0]?=some (e.sub[0]' Ua):=Ng _;have hy:e.sub[1]?=some e.sub[1]:=Ng hs;generalize e.sub[0]' Ua=x at hx;generalize e.sub[1]=y at hy;have xe:0<e.sub.length:=Ua;have bC:(1:Int)<(e.sub.length:Int):=Ua;have hihx:=ih x (Ni hx);have hihy:=ih y (Ni hy)
 have tL:K4 e.kind e.name (ck,cs) (0+0)=(1,e.name):=by
  unfold K4;rw [if_pos hk];rfl
 have wD:K4 e.kind e.name (ck,cs) (0+1)=(2,e.name):=by
  unfold K4;rw [if_pos hk];rfl
 have hv:e.gen sl fl (ck,cs)=Yv [(2,sl e.name)] (x.gen sl fl (1,e.name)) (y.gen sl fl (2,e.name)):=by
  rw [Ex.gen_eq,Jae,if_neg Ua,if_neg Ua,if_neg Ua,if_neg Ua,if_neg Ua,if_neg Ua,if_pos hk,Ex.genL_get sl fl e.kind e.name (ck,cs) e.sub 0 0 x hx,Ex.genL_get sl fl e.kind e.name (ck,cs) e.sub 0 1 y hy,tL,wD]
 have eS:=Ex.gen_len sl fl e (ck,cs);rw [hv] at eS ⊢;rw [Ex.choice_len] at eS;have t3:(e.kind == 3)=false:=L3;have t4:(e.kind == 4)=false:=L3;have t5:(e.kind == 5)=false:=L3;have t6:(e.kind == 6)=false:=L3;have t7:(e.kind == 7)=false:=L3;have t8:(e.kind == 8)=false:=L3;have t9:(e.kind == 9)=false:=L3;have t10:(e.kind == 10)=true:=L3;have HP:=Nf hp;have HE:=Nf he;have HX:=Nf hx;have HY:=Nf hy;unfold exV;have HG:=Nf eS;clear hk hv hp he hc tL wD hx hy eS ih;have gZ:∀(fn:Fn) (first cap:Array Value) (w:World),(Instr.makeFunc fn first cap).run Tryz.prog w = .ok (.func fn first cap) w:=fun _ _ _ _=>rfl
 go_enter Tryz.func105,Tryz.ntmps105
 go_wp2_with fail
 refine Jo fun W0 ag=>?_;have ax:=Nd w W0 Uz;have bD:W0.heap.size=w.heap.size+3:=Vu;have p0:=Nb W0 w.heap.size 0 (.pointer (some ⟨X,0,none⟩)) Uf;have e0:=Na W0 (w.heap.size+1) 0 e.kind Uf;have e1:=Nb W0 (w.heap.size+1) 1 (.int .i32 e.n) Uf;have e2:=Nb W0 (w.heap.size+1) 2 (.string e.name) Uf;have e3:=Nb W0 (w.heap.size+1) 3 (.slice A e.sub.length cap) Uf;have k0:=Na W0 (w.heap.size+2) 0 ck Uf;have k1:=Nb W0 (w.heap.size+2) 1 (.string cs) Uf;have jl:=lt0 w W0;have bV:=ltA w 1 W0;have gq:=ltA w 2 W0;have hz:w.heap.size<=W0.heap.size:=Ua;clear ag gZ bD;obtain⟨b,off,A',cap',hA,c0,c1,c2,c3,bd⟩:=(HE.out.later ax).get HX.out;obtain⟨b',off',A'',cap'',lL,g0,g1,g2,g3,hs3⟩:=(HE.out.later ax).get HY.out;rw [hA] at lL;injection lL with lL;injection lL with hA1 tM xJ;subst hA1 tM hA;simp only [Nat.zero_mul,Nat.add_zero,Nat.one_mul] at c0 c1 c2 c3 g0 g1 g2 g3;have aH:=Nu c0;have az:=hihx A' cap' 1 e.name W0.drew (HP.out.later ax).drew (bd.later (Jh (Nt))) ⟨Vy,aw⟩;have lM:=fun W (hb:Below W0.heap.size W0 W)=>hihy A'' cap'' 2 e.name W ((HP.out.later ax).later hb) (hs3.later hb) ⟨Vy,aw⟩;unfold exV at az lM;have HCA:=Nf az;have HCB:=Nf lM;have gK:(x.gen sl fl (1,e.name)).length+(y.gen sl fl (2,e.name)).length<=700000:=by have:=HG.out;omega
 clear az lM bd hs3;generalize x.gen sl fl (1,e.name)=g at *;generalize y.gen sl fl (2,e.name)=h at *
 go_region_law (go_simp;go_wp2_with (go_at_call 105;go_loud (refine HCA.out.mono ?_;rintro r w1 ⟨⟨A1,c1',rfl,dN⟩,ac⟩)))
 all_goals
  have cT:=Nd W0 w1 ((Jh (Nt)).trans (ac.mono Uh));replace p0:=Ja cT p0;replace e0:=Ja cT e0;replace e2:=Ja cT e2;replace e3:=Ja cT e3;replace g0:=Ja cT g0;replace g1:=Ja cT g1;replace g2:=Ja cT g2;replace g3:=Ja cT g3;clear e1 k0 k1 c0 c1 c2 c3;have ii:=(HP.out.later ax).later cT;obtain⟨m0,m2,⟨n,f,c,hm,hf⟩,_⟩:=ii;have hX:X<w1.heap.size:=Nu m0;have af:=cT.size;have jU:=Nu g0
  have hS:∀w',Below w1.heap.size w1 w'->w'.cell? ⟨w.heap.size,0,none⟩=some (.pointer (some ⟨X,0,none⟩))/\w'.cell? ⟨w.heap.size+1,2,none⟩=some (.string e.name)/\w'.cell? ⟨w.heap.size+1,3,none⟩=some (.slice (some ⟨b,off,none⟩) e.sub.length cap)/\
    w'.cell? ⟨b,off+4,none⟩=some (.int .i64 y.kind)/\w'.cell? ⟨b,off+4+1,none⟩=some (.int .i32 y.n)/\w'.cell? ⟨b,off+4+2,none⟩=some (.string y.name)/\w'.cell? ⟨b,off+4+3,none⟩=some (.slice A'' y.sub.length cap'')/\w'.cell? ⟨X,0,none⟩=some (.map (some Bs))/\
    (Instr.lookup 204 (.map (some Bs)) (.string e.name) false).run Tryz.prog w' = .ok (.int .i32 (sl e.name)) w':=fun w' hb=>
   ⟨Ja hb p0,Ja hb e2,Ja hb e3,Ja hb g0,Ja hb g1,Ja hb g2,Ja hb g3,Ja hb m0,Jcb (Jc2 Tryz.underlying9) (x:= .string e.name) Tryz.underlying204 Tryz.underlying21 (Jbp _) rfl (hm.bel hb) aw (hf _ aw)⟩
  have tN:=Nf hS;clear hm hf ac hS
  go_wp2_with fail
  go_region_held3 (fun w'=>w'.cell? ⟨w.heap.size,0,none⟩=some (.pointer (some ⟨X,0,none⟩))/\w'.cell? ⟨w.heap.size+1,2,none⟩=some (.string e.name)/\w'.cell? ⟨w.heap.size+1,3,none⟩=some (.slice (some ⟨b,off,none⟩) e.sub.length cap)/\
    w'.cell? ⟨b,off+4,none⟩=some (.int .i64 y.kind)/\w'.cell? ⟨b,off+4+1,none⟩=some (.int .i32 y.n)/\w'.cell? ⟨b,off+4+2,none⟩=some (.string y.name)/\w'.cell? ⟨b,off+4+3,none⟩=some (.slice A'' y.sub.length cap'')/\w'.cell? ⟨X,0,none⟩=some (.map (some Bs))/\
    (Instr.lookup 204 (.map (some Bs)) (.string e.name) false).run Tryz.prog w' = .ok (.int .i32 (sl e.name)) w')
   (first|exact tN.out _ (Jh (Nt))|exact tN.out _ qN|exact tN.out _ hC3|exact tN.out _ xK)
   (first
   | (go_at_call_of 103 (Value.int IntKind.i64 2);refine(Jak _ _ _).mono ?_;rintro r w2 ⟨⟨rfl,ao⟩,aq⟩;have dR:=Kos.one ao;have br:=aq.size;have xK:=Nd w1 w2 ((Jh (Nt)).trans (aq.mono Uh));have cF:=cT.trans (Below.mono xK cT.size);clear ao)
   | (go_at_call 105;refine(HCB.out _ cF).mono ?_;rintro r w3 ⟨⟨A3,c3',rfl,iI⟩,aM⟩;have fe:=aM.size;have hC3:=xK.trans (aM.mono xK.size);have cZ:=cF.trans (aM.mono cF.size))
   | (go_at_call 120;refine(Jg5 [(2,sl e.name)] g h _ _ _ _ _ _ w3 (dR.later aM) ((dN.later xK).later aM) iI Ui).mono ?_;intro r w4 aZ;obtain⟨⟨A4,c4,rfl,gP⟩,ei⟩:=aZ.at.less (ax.trans (cZ.mono ax.size));have qN:=hC3.trans (aZ.2.mono hC3.size);clear aZ))
  all_goals
   go_wp2_with fail
   go_ret;exact⟨⟨A4,c4,rfl,gP⟩,ei⟩
end
theorem Jow (X Bs Bf:Nat) (sl:ByteArray->Int) (fl:Int×ByteArray->Int) (e:Ex):e.formed=true->e.size<=200000->Jag X Bs Bf sl fl e:=by
 induction e using Ex.ind with
 | h e ih=>
  intro hf hz
  have ih2:∀x∈e.sub,Jag X Bs Bf sl fl x:=fun x hx=>ih x hx (Q9 hf x hx) (by
   obtain⟨k,hk⟩:=List.getElem?_of_mem hx;have:=Ex.size_mem e.sub k x hk;have:=Ex.size_eq e;omega)
  obtain⟨hn,hs⟩:=Ex.formed_kind hf;have aw:okS e.name:=by unfold okS maxLen;omega
  by_cases h3:e.kind=3
  ·exact Jz9 X Bs Bf sl fl e h3 aw
  by_cases h4:e.kind=4
  ·exact Jz6 X Bs Bf sl fl e h4 (by rw [h4] at hn;simp [Jw] at hn;omega) hz ih2
  by_cases h5:e.kind=5
  ·exact Jzz X Bs Bf sl fl e h5 (by rw [h5] at hn;simp [Jw] at hn;omega) hz ih2
  by_cases h6:e.kind=6
  ·exact Kae X Bs Bf sl fl e h6 (by rw [h6] at hn;simp [Jw] at hn;omega) hz ih2
  by_cases h7:e.kind=7
  ·exact Jz5 X Bs Bf sl fl e h7 (by rw [h7] at hn;simp [Jw] at hn;omega) hz ih2
  by_cases h8:e.kind=8
  ·exact Ju0 X Bs Bf sl fl e (.inl h8) (by rw [h8] at hn;simp [Jw] at hn;omega) ih2
  by_cases h9:e.kind=9
  ·exact Ju0 X Bs Bf sl fl e (.inr h9) (by rw [h9] at hn;simp [Jw] at hn;omega) ih2
  by_cases bM:e.kind=10
  ·exact Jzh X Bs Bf sl fl e bM (by rw [bM] at hn;simp [Jw] at hn;omega) hz aw ih2
  exact Jz0 X Bs Bf sl fl e ⟨h3,h4,h5,h6,h7,h8,h9,bM⟩
end Go.Proofs.YtdgjplldlfeolaaGreatDoor
