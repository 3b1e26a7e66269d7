/- Lemmas. -/
import Derived.Test.YtdgjplldlfeolaaGreatDoorZ14
import Derived.Test.YtdgjplldlfeolaaGreatDoorZ01
import Derived.Test.YtdgjplldlfeolaaGreatDoorZ13
set_option linter.unusedVariables false
set_option linter.unusedSimpArgs false
set_option maxRecDepth 100000
set_option maxHeartbeats 64000000
namespace Go.Proofs.YtdgjplldlfeolaaGreatDoor
open Go.RowKit Go.Sort
def fV (f:Int×Int×Int):Value:= .agg #[.int .i64 f.1,.int .i64 f.2.1,.int .i64 f.2.2]
theorem Js4 (p:Pr) (a:PrA) (w:World) (hp:Kr w p a) (n1:p.ins.length<=1000000) (n2:p.outs.length<=1000000) (n3:p.locals.length<=1000000) (n4:p.eqs.length<=1000000) (he:K5 p≠0) :
  Calls Tryz.prog 132 #[prV p a] w fun r w'=>r = .returned (fV (J7 p))/\Below w.heap.size w w':=by
 have hv:J7 p=(4,0,K5 p):=by unfold J7;rw [if_pos he]
 have bN:=fun W h=>Jh3 p a W (hp.later h) n1 n2 n3 n4;have he':(K5 p != 0)=true:=by simpa using he
 clear he;obtain⟨A1,c1,A2,c2,A3,c3,A4,c4⟩:=a;unfold prV at *;unfold fV;dsimp only at *;have HV:=Lib.hid hv;clear hv
 go_enter Tryz.func132,Tryz.ntmps132
 go_wp2_with (go_at_call 8;refine(bN _ Jb).mono ?_;rintro r w1 ⟨rfl,ac⟩;have ak:=Jg ac;have tH:=Jf ac;have af:=ac.size;(try simp at af);have bV:=alt ac)
 go_ways
 refine bodyPost_ret (v:= .agg #[.int .i64 (4),.int .i64 (0),.int .i64 (K5 p)]) (by simp [results,Tryz.results132,go_sem, *]) rfl ⟨by rw [HV.out],?_⟩;exact Km
theorem Jep {p:Pr} (h:Qw p=true):∀v∈Je p,Jb8 v:=by
 obtain⟨_,h1,h2,h3,_⟩:=X4 h;intro v hv;simp only [Je,List.mem_append] at hv
 rcases hv with (hv|hv)|hv
 ·exact h1 v hv
 ·exact h2 v hv
 ·exact h3 v hv
theorem Z5 {p:Pr} (h:K5 p=0):Qw p=true:=by
 unfold K5 at h
 split at h
 ·omega
 ·rename_i h2;simpa using h2
theorem Jun (p:Pr) (a:PrA) (w:World) (hp:Kr w p a) (n1:p.ins.length<=1000000) (n2:p.outs.length<=1000000) (n3:p.locals.length<=1000000) (n4:p.eqs.length<=1000000) (he:K5 p=0)
  (dP:8<p.ins.length\/8<p.outs.length\/24<(Je p).length) :
  Calls Tryz.prog 132 #[prV p a] w fun r w'=>r = .returned (fV (J7 p))/\Below w.heap.size w w':=by
 have hv:J7 p=(4,0,3):=by unfold J7;rw [if_neg (by omega),if_pos dP]
 have bN:=fun W h=>Jh3 p a W (hp.later h) n1 n2 n3 n4;have aJ:=fun W h=>Jcv p a W (hp.later h) n1 n2 n3;rw [he] at bN;clear he;obtain⟨A1,c1,A2,c2,A3,c3,A4,c4⟩:=a;unfold prV at *;unfold fV;dsimp only at *;have aO:True:=trivial
 by_cases g1:8<p.ins.length
 ·have HV:=Lib.hid hv;clear hv
  go_enter Tryz.func132,Tryz.ntmps132
  go_wp2_with (first|(go_at_call 8;refine(bN _ Jb).mono ?_;rintro r wa ⟨rfl,aA⟩;have aW:=Jg aA;have bS:=Jf aA;have cN:w.heap.size+2<=wa.heap.size:=(by have:=aA.size;simpa using this);have dG:w.heap.size<wa.heap.size:=(by omega);have mj:w.heap.size+1<wa.heap.size:=(by omega))|(go_at_call 118;refine(aJ _ Jb).mono ?_;rintro r wb ⟨⟨A,cap,rfl,ae⟩,aH⟩;have el:=Jg aH;have mJ:=Jf aH;have dH:=aH.size;have cA:w.heap.size<wb.heap.size:=(by omega);have mm:w.heap.size+1<wb.heap.size:=(by omega);have cR:=Ju.of_own ae)|(go_at_call 138;refine(aO _ _ _ (cR.later Jb)).mono ?_;rintro r wc ⟨⟨B,rfl,hB,kg⟩,bU⟩;have cB:=Jg bU;have eB:=Jf bU;have iG:=bU.size;have kh:w.heap.size<wc.heap.size:=(by omega);have uE:w.heap.size+1<wc.heap.size:=(by omega)))
  refine bodyPost_ret (v:= .agg #[.int .i64 (4),.int .i64 (0),.int .i64 (3)]) (by simp [results,Tryz.results132,go_sem, *]) rfl ⟨by rw [HV.out],?_⟩;exact Km
 by_cases g2:8<p.outs.length
 ·have HV:=Lib.hid hv;clear hv
  go_enter Tryz.func132,Tryz.ntmps132
  go_wp2_with (first|(go_at_call 8;refine(bN _ Jb).mono ?_;rintro r wa ⟨rfl,aA⟩;have aW:=Jg aA;have bS:=Jf aA;have cN:w.heap.size+2<=wa.heap.size:=(by have:=aA.size;simpa using this);have dG:w.heap.size<wa.heap.size:=(by omega);have mj:w.heap.size+1<wa.heap.size:=(by omega))|(go_at_call 118;refine(aJ _ Jb).mono ?_;rintro r wb ⟨⟨A,cap,rfl,ae⟩,aH⟩;have el:=Jg aH;have mJ:=Jf aH;have dH:=aH.size;have cA:w.heap.size<wb.heap.size:=(by omega);have mm:w.heap.size+1<wb.heap.size:=(by omega);have cR:=Ju.of_own ae)|(go_at_call 138;refine(aO _ _ _ (cR.later Jb)).mono ?_;rintro r wc ⟨⟨B,rfl,hB,kg⟩,bU⟩;have cB:=Jg bU;have eB:=Jf bU;have iG:=bU.size;have kh:w.heap.size<wc.heap.size:=(by omega);have uE:w.heap.size+1<wc.heap.size:=(by omega)))
  refine bodyPost_ret (v:= .agg #[.int .i64 (4),.int .i64 (0),.int .i64 (3)]) (by simp [results,Tryz.results132,go_sem, *]) rfl ⟨by rw [HV.out],?_⟩;exact Km
 have g3:24<(Je p).length:=by omega
 clear dP;have HV:=Lib.hid hv;clear hv
 go_enter Tryz.func132,Tryz.ntmps132
 go_wp2_with (first|(go_at_call 8;refine(bN _ Jb).mono ?_;rintro r wa ⟨rfl,aA⟩;have aW:=Jg aA;have bS:=Jf aA;have cN:w.heap.size+2<=wa.heap.size:=(by have:=aA.size;simpa using this);have dG:w.heap.size<wa.heap.size:=(by omega);have mj:w.heap.size+1<wa.heap.size:=(by omega))|(go_at_call 118;refine(aJ _ Jb).mono ?_;rintro r wb ⟨⟨A,cap,rfl,ae⟩,aH⟩;have el:=Jg aH;have mJ:=Jf aH;have dH:=aH.size;have cA:w.heap.size<wb.heap.size:=(by omega);have mm:w.heap.size+1<wb.heap.size:=(by omega);have cR:=Ju.of_own ae)|(go_at_call 138;refine(aO _ _ _ (cR.later Jb)).mono ?_;rintro r wc ⟨⟨B,rfl,hB,kg⟩,bU⟩;have cB:=Jg bU;have eB:=Jf bU;have iG:=bU.size;have kh:w.heap.size<wc.heap.size:=(by omega);have uE:w.heap.size+1<wc.heap.size:=(by omega)))
 refine bodyPost_ret (v:= .agg #[.int .i64 (4),.int .i64 (0),.int .i64 (3)]) (by simp [results,Tryz.results132,go_sem, *]) rfl ⟨by rw [HV.out],?_⟩;exact Km
theorem Juh {d:ByteArray->Option Int} {k:Nat} (HD:Hid (∀s,0<=(d s).getD 0/\(d s).getD 0<=(k:Int))) {n:ByteArray} (h0:0<=(d n).getD 0) (h1:(d n).getD 0<=(k:Int)) :
  Hid (∀s,0<=((upd d n ((d n).getD 0+1)) s).getD 0/\((upd d n ((d n).getD 0+1)) s).getD 0<=((k+1:Nat):Int)):=by
 intro s;have h2:=HD.out s;unfold upd
 by_cases h:s.data=n.data
 ·rw [if_pos h];simp only [Option.getD_some];omega
 ·rw [if_neg h];omega
theorem Jqf (p:Pr) (a:PrA) (w:World) (hp:Kr w p a) (n1:p.ins.length<=1000000) (n2:p.outs.length<=1000000) (n3:p.locals.length<=1000000) (n4:p.eqs.length<=1000000) (he:K5 p=0)
  (g1:p.ins.length<=8) (g2:p.outs.length<=8) (g3:(Je p).length<=24) :
  Calls Tryz.prog 132 #[prV p a] w fun r w'=>r = .returned (fV (J7 p))/\Below w.heap.size w w':=by
 have dD:J7 p=Jhl p (Jah (Je p) 0 (Je p)):=by unfold J7;rw [if_neg (by omega),if_neg (by omega)]
 have jn:=Z5 he;have mn:=Jep jn;have dn:=(X4 jn).2.2.2.2;have bN:=fun W h=>Jh3 p a W (hp.later h) n1 n2 n3 n4;have aJ:=fun W h=>Jcv p a W (hp.later h) n1 n2 n3;rw [he] at bN;clear he jn;have aO:=fun A cap W h=>Jtr (Je p) A cap (fun v hv=>by have:=(mn v hv).1;unfold maxLen;omega) (by omega) W h;have kC:p.ins.length<=(Je p).length:=by simp [Je]
 have jN:∀v∈Je p,v.name.size<=maxLen:=fun v hv=>by have:=(mn v hv).1;unfold maxLen;omega
 have HSM:=Lib.hid jN;clear jN mn;have jR:=Lib.hid dn;clear dn;have jQ:=Lib.hid dD;clear dD;have oM:=hp.eqs.len;obtain⟨A1,c1,A2,c2,A3,c3,A4,c4⟩:=a;unfold maxLen at oM;unfold prV at *;unfold fV;dsimp only at *;obtain⟨tC,tD⟩:=oM;have HIL:=Lib.hid kC;clear kC;generalize hL:Je p=L at *;have HL:=Lib.hid hL;clear hL
 go_enter Tryz.func132,Tryz.ntmps132
 go_wp2_with (first|(go_at_call 8;refine(bN _ Jb).mono ?_;rintro r wa ⟨rfl,aA⟩;have aW:=Jg aA;have bS:=Jf aA;have cN:w.heap.size+2<=wa.heap.size:=(by have:=aA.size;simpa using this);have dG:w.heap.size<wa.heap.size:=(by omega);have mj:w.heap.size+1<wa.heap.size:=(by omega))|(go_at_call 118;refine(aJ _ Jb).mono ?_;rintro r wb ⟨⟨A,cap,rfl,ae⟩,aH⟩;have el:=Jg aH;have mJ:=Jf aH;have dH:=aH.size;have cA:w.heap.size<wb.heap.size:=(by omega);have mm:w.heap.size+1<wb.heap.size:=(by omega);have cR:=Ju.of_own ae)|(go_at_call 138;refine(aO _ _ _ (cR.later Jb)).mono ?_;rintro r wc ⟨⟨B,rfl,hB,kg⟩,bU⟩;have cB:=Jg bU;have eB:=Jf bU;have iG:=bU.size;have kh:w.heap.size<wc.heap.size:=(by omega);have uE:w.heap.size+1<wc.heap.size:=(by omega)))
 refine Jo fun W0 ag=>?_;have ax:Below w.heap.size w W0:=by rw [ag];exact Jb
 have zk:Below wc.heap.size wc W0:=by rw [ag];exact Jb
 have uF:wc.heap.size<W0.heap.size:=by rw [ag];simp
 have bD:w.heap.size<W0.heap.size:=by omega
 have iq:w.heap.size+1<W0.heap.size:=by omega
 have p1:W0.cell? ⟨w.heap.size,1,none⟩=some (.slice A1 p.ins.length c1):=by rw [ag];go_simp
 have p4:W0.cell? ⟨w.heap.size,4,none⟩=some (.slice A4 p.eqs.length c4):=by rw [ag];go_simp
 have f0:W0.cell? ⟨w.heap.size+1,0,none⟩=some (.int .i64 0):=by rw [ag];go_simp
 have f1:W0.cell? ⟨w.heap.size+1,1,none⟩=some (.int .i64 0):=by rw [ag];go_simp
 have f2:W0.cell? ⟨w.heap.size+1,2,none⟩=some (.int .i64 0):=by rw [ag];go_simp
 have l0:W0.cell? ⟨wc.heap.size,0,none⟩=some (.slice A L.length cap):=by rw [ag];go_simp
 have l1:W0.cell? ⟨wc.heap.size,1,none⟩=some (.map (some B)):=by rw [ag];go_simp
 have z0:W0.frozen? ⟨w.heap.size+1,0,none⟩=false:=by rw [ag];go_simp
 have z1:W0.frozen? ⟨w.heap.size+1,1,none⟩=false:=by rw [ag];go_simp
 have z2:W0.frozen? ⟨w.heap.size+1,2,none⟩=false:=by rw [ag];go_simp
 clear ag;have bE:Ju W0 L A cap:=cR.later Jb;have eU:=kg.bel zk;have bT:=hp.eqs.later ax;have uG:=eU.lt;dsimp only at bT;clear bN aJ aO ae cR kg aW el cB bS mJ eB hp
 go_loopw [47] (fun i wr=>∃k:Nat,k<=L.length/\i = .int .i64 k/\Jah L k (L.drop k)=Jah L 0 L/\Below W0.heap.size W0 wr) (fun i _=>L.length-(intOf i).toNat)
 case atStart=>exact⟨0,Nat.zero_le _,rfl,rfl,Below.refl _ _⟩
 case round=>
  obtain⟨k,hk,rfl,aa,ab⟩:=hrel;have hc:=Jg ab;have eh:=Jf ab;have bu:=ab.size;have ej:=eU.bel ab;have fF:w.heap.size<wr.heap.size:=by omega
  have fa:w.heap.size+1<wr.heap.size:=by omega
  have hr3:wc.heap.size<wr.heap.size:=by omega
  have sj:B<wr.heap.size:=by omega
  by_cases am:k<L.length
  ·obtain⟨x,hx,-,hd⟩:=Kl am;obtain⟨b,off,rfl,aH,⟨d0,d1,d2,d3⟩⟩:=(bE.later ab).get hx;rw [hd,Jah] at aa;have hs:=HSM.out x (List.mem_of_getElem? hx);clear hd hx
   cases dj:((Qi L x.name).getD 0 != (k:Int))
   case true=>
    rw [if_pos (by simpa using dj)] at aa;have hv:J7 p=(2,(k:Int),18):=by rw [jQ.out,<-aa];rfl
    clear aa;have HV:=Lib.hid hv;clear hv
    go_wp2_with (first|(at_lookup;refine Qb rfl (.tmp 53) (.tmp 55) 177 rfl Tryz.underlying9 Tryz.underlying177 Tryz.underlying3 (Kj _) B L.length (Qi L) x.name rfl (by repeat (first|(with_reducible assumption)|refine Jz.alloc ?_|refine Jz.bel ?_ (by with_reducible assumption)|refine Jz.drew ?_)) rfl hs ?_))
    refine bodyPost_ret (v:= .agg #[.int .i64 (2),.int .i64 ((k:Int)),.int .i64 (18)]) (by simp [results,Tryz.results132,go_sem, *]) rfl ⟨by rw [HV.out],?_⟩;exact Km
   rw [if_neg (by simpa using dj)] at aa;have HR:=Lib.hid aa;clear aa
   go_wp2_with (first|(at_lookup;refine Qb rfl (.tmp 53) (.tmp 55) 177 rfl Tryz.underlying9 Tryz.underlying177 Tryz.underlying3 (Kj _) B L.length (Qi L) x.name rfl (by repeat (first|(with_reducible assumption)|refine Jz.alloc ?_|refine Jz.bel ?_ (by with_reducible assumption)|refine Jz.drew ?_)) rfl hs ?_))
   go_roundw
   case rel=>exact⟨k+1,by omega,by go_num,HR.out,Jb⟩
   case measure=>simp [intOf];omega
  obtain rfl:k=L.length:=by omega
  rw [List.drop_length,Jah] at aa;have fC:J7 p=Jkn L p.ins.length (Zy L p.ins.length 0 (fun _=>none) p.eqs):=by rw [jQ.out,<-aa,Jhl,HL.out]
  have ku:=Lib.hid fC;clear fC aa;clear ej;obtain⟨Wm,rfl⟩:∃Wm,Wm=wr:=⟨wr,rfl⟩;have iQ:Below w.heap.size w Wm:=Jd ax ab;have rE:=bE.later ab;have zl:=eU.bel ab;have zn:=bT.later ab;have hcz:wc.heap.size<Wm.heap.size:=by omega
  replace p1:=(hc _ _ bD).trans p1;replace p4:=(hc _ _ bD).trans p4;replace f0:=(hc _ _ iq).trans f0;replace f1:=(hc _ _ iq).trans f1;replace f2:=(hc _ _ iq).trans f2;replace l0:=(hc _ _ uF).trans l0;replace l1:=(hc _ _ uF).trans l1;replace z0:=(eh _ _ iq).trans z0;replace z1:=(eh _ _ iq).trans z1;replace z2:=(eh _ _ iq).trans z2;clear hc eh bu ab bE eU bT ax zk bD iq uF sj uG;have uG:=zl.lt;have gI:=@run_makeMap Tryz.prog
  go_wp2_with fail
  clear gI
  go_loopw [66] (fun i wr=>∃(k:Nat) (d:ByteArray->Option Int),k<=p.eqs.length/\i = .int .i64 k/\Jz Tryz.prog 9 3 wr Wm.heap.size k d/\Hid (∀s,0<=(d s).getD 0/\(d s).getD 0<=(k:Int))/\Zy L p.ins.length k d (p.eqs.drop k)=Zy L p.ins.length 0 (fun _=>none) p.eqs/\Below Wm.heap.size Wm wr) (fun i _=>p.eqs.length-(intOf i).toNat)
  case atStart=>exact⟨0,_,Nat.zero_le _,rfl,Jz.made _,Lib.hid (fun s=>⟨by simp,by simp⟩),rfl,Jb⟩
  case round=>
   obtain⟨k,d,hk,rfl,hmd,HD,aa,ab⟩:=hrel;have hc:=Jg ab;have eh:=Jf ab;have bu:=ab.size;have ek:=hmd.lt;have fF:w.heap.size<wr.heap.size:=by omega
   have fa:w.heap.size+1<wr.heap.size:=by omega
   have hr3:wc.heap.size<wr.heap.size:=by omega
   have sj:B<wr.heap.size:=by omega
   by_cases am:k<p.eqs.length
   ·obtain⟨q,hx,-,hd⟩:=Kl am;obtain⟨b,off,B1,n1,B2,n2,rfl,aH,⟨g0,g1,g2,g3,g4,g5,g6,g7,g8,g9,s1,s2⟩⟩:=(zn.later ab).get hx;rw [hd,Zy] at aa;have hq:=jR.out q (List.mem_of_getElem? hx);have hs:q.name.size<=maxLen:=by have:=(Jaq hq).1;unfold maxLen;omega
    have ou:=fun W h1 h2 hl hd=>Jpd q hq L A cap B L.length B1 n1 B2 n2 p.ins.length Wm.heap.size k d W h1 h2 hl hd;unfold Q6 qeV at ou;obtain⟨hdq0,hdq1⟩:=HD.out q.name;clear hd hx hq
    cases dj:(eqE L p.ins.length d q != 0)
    case true=>
     rw [if_pos (by simpa using dj)] at aa;have fC:J7 p=(3,(k:Int),eqE L p.ins.length d q):=by rw [ku.out,<-aa];rfl
     clear aa;have HV:=Lib.hid fC;clear fC
     go_wp2_with (first|(go_at_call 143;refine(ou _ (s1.later Jb) (s2.later Jb) ⟨rE.later Jb,(by repeat (first|(with_reducible assumption)|refine Jz.alloc ?_|refine Jz.bel ?_ (by with_reducible assumption)|refine Jz.drew ?_))⟩ (by repeat (first|(with_reducible assumption)|refine Jz.alloc ?_|refine Jz.bel ?_ (by with_reducible assumption)|refine Jz.drew ?_))).mono ?_;rintro r w1 ⟨rfl,ac⟩;have ak:=Jg ac;have db:=Jf ac;have af:=ac.size;(try simp at af);have bV:=alt ac;have mo:wc.heap.size<w1.heap.size:=(by omega))|(at_lookup;refine Qb rfl (.tmp 83) (.tmp 85) 177 rfl Tryz.underlying9 Tryz.underlying177 Tryz.underlying3 (Kj _) Wm.heap.size k d q.name rfl (by repeat (first|(with_reducible assumption)|refine Jz.alloc ?_|refine Jz.bel ?_ (by with_reducible assumption)|refine Jz.drew ?_)) rfl hs ?_)|(at_mapUpdate;refine Jau rfl (.tmp 83) (.tmp 85) (.tmp 87) 177 rfl Tryz.underlying9 Tryz.underlying177 Tryz.underlying3 Wm.heap.size k d q.name ((d q.name).getD 0+1) rfl (by repeat (first|(with_reducible assumption)|refine Jz.alloc ?_|refine Jz.bel ?_ (by with_reducible assumption)|refine Jz.drew ?_)) (by omega) rfl rfl hs (by omega) ?_;intro w2 cI aG))
     refine bodyPost_ret (v:= .agg #[.int .i64 (3),.int .i64 ((k:Int)),.int .i64 ((eqE L p.ins.length d q))]) (by simp [results,Tryz.results132,go_sem, *]) rfl ⟨by rw [HV.out],?_⟩;exact Km
    rw [if_neg (by simpa using dj)] at aa;have HR:=Lib.hid aa;clear aa
    go_wp2_with (first|(go_at_call 143;refine(ou _ (s1.later Jb) (s2.later Jb) ⟨rE.later Jb,(by repeat (first|(with_reducible assumption)|refine Jz.alloc ?_|refine Jz.bel ?_ (by with_reducible assumption)|refine Jz.drew ?_))⟩ (by repeat (first|(with_reducible assumption)|refine Jz.alloc ?_|refine Jz.bel ?_ (by with_reducible assumption)|refine Jz.drew ?_))).mono ?_;rintro r w1 ⟨rfl,ac⟩;have ak:=Jg ac;have db:=Jf ac;have af:=ac.size;(try simp at af);have bV:=alt ac;have mo:wc.heap.size<w1.heap.size:=(by omega))|(at_lookup;refine Qb rfl (.tmp 83) (.tmp 85) 177 rfl Tryz.underlying9 Tryz.underlying177 Tryz.underlying3 (Kj _) Wm.heap.size k d q.name rfl (by repeat (first|(with_reducible assumption)|refine Jz.alloc ?_|refine Jz.bel ?_ (by with_reducible assumption)|refine Jz.drew ?_)) rfl hs ?_)|(at_mapUpdate;refine Jau rfl (.tmp 83) (.tmp 85) (.tmp 87) 177 rfl Tryz.underlying9 Tryz.underlying177 Tryz.underlying3 Wm.heap.size k d q.name ((d q.name).getD 0+1) rfl (by repeat (first|(with_reducible assumption)|refine Jz.alloc ?_|refine Jz.bel ?_ (by with_reducible assumption)|refine Jz.drew ?_)) (by omega) rfl rfl hs (by omega) ?_;intro w2 cI aG))
    go_roundw
    case rel=>exact⟨k+1,_,by omega,by go_num,cI,Juh HD hdq0 hdq1,HR.out,Jnu Jb aG (Nat.le_refl _)⟩
    case measure=>simp [intOf];omega
   obtain rfl:k=p.eqs.length:=by omega
   rw [List.drop_length,Zy] at aa;have fC:J7 p=Jg3 d L p.ins.length:=by rw [ku.out,<-aa];rfl
   have bL:=Lib.hid fC;clear fC aa ku;obtain⟨We,rfl⟩:∃We,We=wr:=⟨wr,rfl⟩;have ro:Below w.heap.size w We:=Jn iQ ab (by omega);have hvae:=rE.later ab;have hr5:Wm.heap.size<We.heap.size:=by omega
   have bD:w.heap.size<Wm.heap.size:=by omega
   have af:w.heap.size+1<Wm.heap.size:=by omega
   replace p1:=(hc _ _ bD).trans p1;replace f0:=(hc _ _ af).trans f0;replace f1:=(hc _ _ af).trans f1;replace f2:=(hc _ _ af).trans f2;replace z0:=(eh _ _ af).trans z0;replace z1:=(eh _ _ af).trans z1;replace z2:=(eh _ _ af).trans z2;clear hc eh iQ ab rE zn zl;have kC:=HIL.out
   go_wp2_with fail
   go_loopw [13] (fun i wr=>∃k:Nat,p.ins.length<=k/\k<=L.length/\i = .int .i64 k/\Jam d k (L.drop k)=Jam d p.ins.length (L.drop p.ins.length)/\Below We.heap.size We wr) (fun i _=>L.length-(intOf i).toNat)
   case atStart=>exact⟨p.ins.length,Nat.le_refl _,kC,rfl,rfl,Jb⟩
   case round=>
    obtain⟨k,fR,hk,rfl,aa,ab⟩:=hrel;have hc:=Jg ab;have eh:=Jf ab;have bu:=ab.size;have ej:=hmd.bel ab;have hr6:w.heap.size<wr.heap.size:=by omega
    have hr7:w.heap.size+1<wr.heap.size:=by omega
    by_cases am:k<L.length
    ·obtain⟨x,hx,-,hd⟩:=Kl am;obtain⟨b,off,rfl,aH,⟨d0,d1,d2,d3⟩⟩:=(hvae.later ab).get hx;rw [hd,Jam] at aa;have hs:=HSM.out x (List.mem_of_getElem? hx);clear hd hx
     cases dj:((d x.name).getD 0 == 0)
     case true=>
      rw [if_pos (by simpa using dj)] at aa;have hv:J7 p=(2,(k:Int),8):=by rw [bL.out,Jg3,<-aa]
      clear aa;have HV:=Lib.hid hv;clear hv
      go_wp2_with (first|(at_lookup;refine Qb rfl (.tmp 98) (.tmp 103) 177 rfl Tryz.underlying9 Tryz.underlying177 Tryz.underlying3 (Kj _) Wm.heap.size p.eqs.length d x.name rfl (by repeat (first|(with_reducible assumption)|refine Jz.alloc ?_|refine Jz.bel ?_ (by with_reducible assumption)|refine Jz.drew ?_)) rfl hs ?_))
      refine bodyPost_ret (v:= .agg #[.int .i64 (2),.int .i64 ((k:Int)),.int .i64 (8)]) (by simp [results,Tryz.results132,go_sem, *]) rfl ⟨by rw [HV.out],?_⟩;exact Km
     rw [if_neg (by simpa using dj)] at aa;have HR:=Lib.hid aa;clear aa
     go_wp2_with (first|(at_lookup;refine Qb rfl (.tmp 98) (.tmp 103) 177 rfl Tryz.underlying9 Tryz.underlying177 Tryz.underlying3 (Kj _) Wm.heap.size p.eqs.length d x.name rfl (by repeat (first|(with_reducible assumption)|refine Jz.alloc ?_|refine Jz.bel ?_ (by with_reducible assumption)|refine Jz.drew ?_)) rfl hs ?_))
     go_roundw
     case rel=>exact⟨k+1,by omega,by omega,by go_num,HR.out,Jb⟩
     case measure=>simp [intOf];omega
    obtain rfl:k=L.length:=by omega
    rw [List.drop_length,Jam] at aa;have hv:J7 p=(0,0,0):=by rw [bL.out,Jg3,<-aa]
    clear aa;have HV:=Lib.hid hv;clear hv
    go_wp2_with fail
    refine bodyPost_ret (v:= .agg #[.int .i64 (0),.int .i64 (0),.int .i64 (0)]) (by simp [results,Tryz.results132,go_sem, *]) rfl ⟨by rw [HV.out],?_⟩;exact Km
theorem Jnk (p:Pr) (a:PrA) (w:World) (hp:Kr w p a) (n1:p.ins.length<=1000000) (n2:p.outs.length<=1000000) (n3:p.locals.length<=1000000) (n4:p.eqs.length<=1000000) :
  Calls Tryz.prog 132 #[prV p a] w fun r w'=>r = .returned (fV (J7 p))/\Below w.heap.size w w':=by
 by_cases he:K5 p=0
 ·by_cases hb:8<p.ins.length\/8<p.outs.length\/24<(Je p).length
  ·exact Jun p a w hp n1 n2 n3 n4 he hb
  ·exact Jqf p a w hp n1 n2 n3 n4 he (by omega) (by omega) (by omega)
 ·exact Js4 p a w hp n1 n2 n3 n4 he
end Go.Proofs.YtdgjplldlfeolaaGreatDoor
