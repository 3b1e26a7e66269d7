/- Lemmas. -/
import Derived.Test.YtknfcamdfdfoeaaGreatDoorMac
import Derived.Test.YtknfcamdfdfoeaaGreatDoorZ04
import Derived.Test.YtknfcamdfdfoeaaGreatDoorZ01
import Derived.Test.YtknfcamdfdfoeaaGreatDoorZ00
import Derived.Laws.RangeString
import Derived.Laws.RangeAny
import Derived.Test.YtknfcamdfdfoeaaGreatDoorRows
set_option linter.unusedVariables false
set_option linter.unusedSimpArgs false
set_option maxRecDepth 100000
set_option maxHeartbeats 64000000
namespace Go.Proofs.YtknfcamdfdfoeaaGreatDoor
open Go.RowKit Go.Sort Go.Maps Go.ChangeMaps Go.WideMaps Go.WideElems
theorem Jv6 {P:Program} {k:TypeId} (K:KeyLaw P k) {x:Value} {lx:Lit} (hx:keyOf P k x=some lx) (es:List MapEntry) (hk:∀e∈es,∃l,keyOf P k e.key=some l) (hn:(es.map (·.key)).Nodup) :
  (∀w:World,(Instr.findKey k x es).run P w = .ok none w)\/∃j e,(∀w:World,(Instr.findKey k x es).run P w = .ok (some (j,e.val)) w)/\es[j]?=some e/\e.key=x:=by
 by_cases h:∃e∈es,e.key=x
 ·obtain⟨e,he,xn⟩:=h;obtain⟨j,hj⟩:=List.getElem?_of_mem he;refine .inr ⟨j,e,fun w=>?_,hj,xn⟩
  rcases K.find w hx es hk with ⟨_,h2⟩|⟨j',e',h1,h2,h3⟩
  ·exact absurd xn (h2 e he)
  ·have e1:(es.map (·.key))[j]?=some x:=by rw [List.getElem?_map,hj];simp [xn]
   have e2:(es.map (·.key))[j']?=some x:=by rw [List.getElem?_map,h2];simp [h3]
   obtain⟨l1,g1⟩:=List.getElem?_eq_some_iff.1 e1;obtain⟨l2,g2⟩:=List.getElem?_eq_some_iff.1 e2;have:j=j':=(List.getElem_inj hn).1 (g1.trans g2.symm);subst this;rw [hj] at h2;injection h2 with h2;rw [h1,h2]
 ·refine .inl fun w=>?_
  rcases K.find w hx es hk with ⟨h1,_⟩|⟨j',e',_,h2,h3⟩
  ·exact h1
  ·exact absurd ⟨e',List.mem_of_getElem? h2,h3⟩ h
theorem Jt9 {P:Program} {t k e:TypeId} {R:Value->Option (DataW Unit×List MemPlace)} {b:Nat} {es:Array MapEntry} {clock:Nat} (K:KeyLaw P k) (ht:P.underlying t=some (.map k e)) {z:Value} (hz:∀u:World,(zeroValue e).run P u = .ok z u) (F:Fit P k R es clock)
  {key:Value} {kl:Lit} (rg:keyOf P k key=some kl):∃(v0:Value) (st:Nat) (es1:Array MapEntry) (clock1:Nat),∀W:World,W.heap[b]?=some (.map es clock)->
   (Instr.mapEntry t (.map (some b)) key).run P W = .ok (.tuple #[v0,goInt st]) (setBlock W b (.map es1 clock1)):=by
 rcases Jv6 K rg es.toList F.keys F.stamped.2.2 with h1|⟨j,e0,h1,h2,h3⟩
 ·exact⟨z,clock,es.push ⟨key,z,clock⟩,clock+1,fun W hb=>by
   simp [Instr.mapEntry,run_underlying ht,MapKept.run_getObj_map hb,K.check W false rg,h1,hz,MapKept.run_setObj_map _ hb,Result.andThen,setBlock]⟩
 ·have hj:es[j]?=some e0:=Lg
  have bF:es.modify j (fun e=>{e with key:=key})=es:=by
   apply Array.ext';rw [Array.toList_modify,modify_eq_set _ _ _ _ h2];have:({e0 with key:=key} : MapEntry)=e0:=by rw [<-h3]
   rw [this];exact set_self _ _ _ h2
  exact⟨e0.val,e0.born,es,clock,fun W hb=>by
   simp [Instr.mapEntry,run_underlying ht,MapKept.run_getObj_map hb,K.check W false rg,h1,hj,h3,K.stays W rg,bF,MapKept.run_setObj_map _ hb,Result.andThen,setBlock]⟩
section
variable {P:Program} {k e:TypeId} {R:Value->Option (DataW Unit×List MemPlace)} {K V:Type} {ok:K->Prop} {kv:K->Value} {kl:K->Lit} {okv:V->Prop} {vv:V->Value} {vl:V->Lit} {z:V} {w:World} {b n c:Nat} {f:K->Option V}
theorem Qd.steps (ks:Jer P k ok kv kl) (kd:KeyLaw P k) (vs:Jld R okv vv vl) {t:TypeId} (ht:P.underlying t=some (.map k e)) (hz:∀u:World,(zeroValue e).run P u = .ok (vv z) u)
  {s:K} (ae:Qd P k R ok kl okv vl z w b n f c) (hs:ok s) (hn:n<1000000000) {v:V} (hv:okv v) :
  ∃v0 st o0 o1 o2,w.heap[b]?=some o0/\(∀W:World,W.heap[b]?=some o0->(Instr.mapEntry t (.map (some b)) (kv s)).run P W = .ok (.tuple #[v0,.int .i64 st]) (setBlock W b o1))/\
   (∀W:World,W.heap[b]?=some o1->(Instr.entryStore t (.map (some b)) (.int .i64 st) (vv v)).run P W = .ok () (setBlock W b o2))/\
   (∀W:World,W.heap[b]?=some o0->(Instr.mapUpdate t (.map (some b)) (kv s) (vv v)).run P W = .ok () (setBlock W b o2))/\
   ∀W:World,W.heap[b]?=some o2->∀f':K->Option V,f' s=some v->(∀y,ok y->y≠s->f' y=f y)->Qd P k R ok kl okv vl z W b (n+1) f' (if (f s).isSome then c else c+1):=by
 obtain⟨D,h1,h2,h3,h4⟩:=ae;obtain⟨es,clock,hb,F,cE,hD⟩:=id h1;obtain⟨v0,st,es1,clock1,eH⟩:=Jt9 (b:=b) kd ht hz F (ks.read s hs);obtain⟨v0',st',es1',clock1',si,_,cP⟩:=WideElems.entry_then_store kd ht hz hb F (ks.read s hs);rw [eH w hb] at si;injection si with e1 e2
 have e3:(.map es1 clock1:Obj) = .map es1' clock1':=by
  have h5:=heap_setBlock_same hb (.map es1 clock1);rw [e2,heap_setBlock_same hb] at h5;injection h5 with h5;exact h5.symm
 injection e1 with e1;injection e1 with e1;injection e1 with e4 e5;injection e5 with e5;rw [<-e5,<-e3] at cP;obtain⟨w',hu,h5,h6⟩:=h1.update ks.keyed ht U2 (ks.read s hs) (vs.read v hv);obtain⟨es2,clock2,_,fa⟩:=cP (setBlock w b (.map es1 clock1)) (vv v) (heap_setBlock_same hb _)
 have oK:∀W:World,W.heap[b]?=some (.map es1 clock1)->(Instr.entryStore t (.map (some b)) (.int .i64 st) (vv v)).run P W = .ok () (setBlock W b (.map es2 clock2)):=fun W hW=>by
  obtain⟨es3,clock3,hr3,sj⟩:=cP W (vv v) hW;rw [fa] at sj;injection sj with _ sj;have h7:=heap_setBlock_same hb (.map es2 clock2);rw [sj,heap_setBlock_same hb] at h7;injection h7 with h7;rw [<-h7];exact hr3
 refine⟨v0,st,.map es clock,.map es1 clock1,.map es2 clock2,hb,eH,oK,fun W hW=>?_,fun W hW f' db gO=>?_⟩
 ·obtain⟨v8,st8,es8,clock8,sk,_,xu⟩:=WideElems.entry_then_store kd ht hz hW F (ks.read s hs);rw [eH W hW] at sk;injection sk with a1 a2
  have a3:(.map es1 clock1:Obj) = .map es8 clock8:=by
   have h5:=heap_setBlock_same hW (.map es1 clock1);rw [a2,heap_setBlock_same hW] at h5;injection h5 with h5;exact h5.symm
  injection a1 with a1;injection a1 with a1;injection a1 with a4 a5;injection a5 with a5;rw [<-a5,<-a3] at xu;obtain⟨es9,clock9,b1,b2⟩:=xu (setBlock W b (.map es1 clock1)) (vv v) (heap_setBlock_same hW _);have b3:=oK (setBlock W b (.map es1 clock1)) (heap_setBlock_same hW _);rw [show(goInt st:Value) = .int .i64 st from rfl] at b1;rw [b1] at b3;injection b3 with _ b3;have b4:=heap_setBlock_same (heap_setBlock_same hW (.map es1 clock1)) (.map es9 clock9);rw [b3,heap_setBlock_same (heap_setBlock_same hW (.map es1 clock1))] at b4;injection b4 with b4;rw [b2,b4]
 ·rw [fa] at hu;injection hu with _ hu;subst hu;exact(Qd.laid ks hs hv h2 h3 h4 db gO h5).keep1 (by rw [hW,heap_setBlock_same hb])
end
end Go.Proofs.YtknfcamdfdfoeaaGreatDoor
namespace Go.Proofs.YtknfcamdfdfoeaaGreatDoor
open Go.RowKit Go.Sort
def Qf (w:World) (l:List ByteArray) (A:Option Addr) (cap:Nat):Prop:=
 l.length<=cap/\cap<=maxLen/\(0<l.length->∃b off,A=some ⟨b,off,none⟩/\∀(k:Nat) (s:ByteArray),l[k]?=some s->w.cell? ⟨b,off+k,none⟩=some (.string s))
theorem Qf.later {w w':World} {l:List ByteArray} {A:Option Addr} {cap:Nat} (h:Qf w l A cap) (hb:Below w.heap.size w w'):Qf w' l A cap:=
 ⟨h.1,h.2.1,fun hl=>by
  obtain⟨b,off,hA,hr⟩:=h.2.2 hl;exact⟨b,off,hA,fun k s hk=>Ja hb (hr k s hk)⟩⟩
theorem Qf.get {w:World} {l:List ByteArray} {A:Option Addr} {cap k:Nat} {s:ByteArray} (h:Qf w l A cap) (hk:l[k]?=some s):∃b off,A=some ⟨b,off,none⟩/\b<w.heap.size/\w.cell? ⟨b,off+k,none⟩=some (.string s):=by
 have am:k<l.length:=(List.getElem?_eq_some_iff.1 hk).1;obtain⟨b,off,hA,hr⟩:=h.2.2 Ua;exact⟨b,off,hA,block_lt_of_cell (hr k s hk),hr k s hk⟩
theorem Qf.len {w:World} {l:List ByteArray} {A:Option Addr} {cap:Nat} (h:Qf w l A cap):l.length<=cap/\cap<=maxLen:=⟨h.1,h.2.1⟩
theorem Qf.made (w:World) (l:List ByteArray) (t:TypeId) (c:Array Value) (hc:c=(l.map Value.string).toArray) (hl:l.length<=maxLen):Qf (w.alloc (.cells c t)) l (some ⟨w.heap.size,0,none⟩) l.length:=by
 refine⟨Nat.le_refl _,hl,fun _=>⟨_,_,rfl,fun k s hk=>?_⟩⟩;rw [Nat.zero_add,Kw,hc];exact L6
def Jda (p:Int->Bool) (s:ByteArray):Nat->Nat->Nat
 | 0,pos=>pos
 | fuel+1,pos=>if h:pos<s.size then(if p ((s[pos]'h).toNat:Int) then Jda p s fuel (pos+1) else pos) else s.size
theorem Jja {c:Int} (h:128<=c):Q5 c=false:=by
 unfold Q5 Zh Jbz;exact Uj
theorem Joe (s:ByteArray):∀f pos,s.size<f+pos->pos<=s.size->Zb Q5 s f pos=Jda Q5 s f pos
 | 0,pos,h,h2=>Ua
 | f+1,pos,h,h2=>by
  unfold Zb Jda
  by_cases am:pos<s.size
  ·rw [if_pos am,dif_pos am]
   by_cases ha:(s[pos]'am).toNat<128
   ·rw [decode_ascii s pos am ha]
    by_cases hp:Q5 ((s[pos]'am).toNat:Int)=true
    ·rw [if_pos hp,if_pos hp];exact Joe s f (pos+1) Ua Ua
    ·rw [if_neg hp,if_neg hp]
   ·have hh:=decode_high s pos am Ua;rw [if_neg (by rw [Jja Ua];simp),if_neg (by rw [Jja Ua];simp)]
  ·rw [if_neg am,dif_neg am]
theorem Jfd (c:Int) (w:World):Calls Tryz.prog 169 #[.int .u8 c] w fun r w'=>r = .returned (.bool (Zh c))/\w=w':=by
 unfold Zh
 by_cases h:97<=c
 ·go_enter Tryz.func169,Tryz.ntmps169
  exact Udb
 ·go_enter Tryz.func169,Tryz.ntmps169
  exact Udc
theorem Jjf (c:Int) (w:World):Calls Tryz.prog 178 #[.int .u8 c] w fun r w'=>r = .returned (.bool (Jbz c))/\w=w':=by
 unfold Jbz
 by_cases h:48<=c
 ·go_enter Tryz.func178,Tryz.ntmps178
  exact Udb
 ·go_enter Tryz.func178,Tryz.ntmps178
  exact Udc
theorem Jva (s:ByteArray) (w:World) (hs:s.size<=1000000):Calls Tryz.prog 170 #[.string s,.int .i64 0,.int .i64 0] w fun r w'=>r = .returned (.int .i64 (Jda Q5 s (s.size+1) 0:Nat))/\w=w':=by
 go_enter Tryz.func170,Tryz.ntmps170
 go_wp2_with fail
 go_loopw [7] (fun i wr=>∃k:Nat,k<=s.size/\i = .int .i64 k/\Jda Q5 s (s.size+1-k) k=Jda Q5 s (s.size+1) 0/\w=wr) (fun i _=>s.size-(intOf i).toNat)
 case atStart=>exact⟨0,Nat.zero_le _,rfl,rfl,rfl⟩
 case round=>
  obtain⟨k,hk,rfl,aa,rfl⟩:=hrel;obtain⟨f,hf⟩:∃f,s.size+1-k=f+1:=⟨s.size-k,Ua⟩;rw [hf,Jda] at aa;have gO:s.size+1-(k+1)=f:=Ua
  by_cases am:k<s.size
  ·rw [dif_pos am] at aa;have hb:(s[k]'am).toNat<256:=UInt8.toNat_lt _
   cases hp:Q5 ((s[k]'am).toNat:Int)
   ·rw [hp,if_neg Ul] at aa;have gL:=hp;unfold Q5 at gL;simp only [Bool.or_eq_false_iff,decide_eq_false_iff_not] at gL;obtain⟨⟨p1,p2⟩,p3⟩:=gL;have p4:(((s[k]'am).toNat:Int) != 95)=true:=by simpa using p3
    have HR:=Lib.hid aa;clear aa hf gO hp p3
    go_wp2_with (first|(go_at_call 178;refine(Jjf _ _).mono ?_;rintro r w1 ⟨rfl,rfl⟩)|(go_at_call 169;refine(Jfd _ _).mono ?_;rintro r w1 ⟨rfl,rfl⟩))
    go_ret;exact⟨Jm Tg,rfl⟩
   ·rw [hp,if_pos rfl,<-gO] at aa;have HR:=Lib.hid aa;clear aa hf gO
    have gL:Jbz ((s[k]'am).toNat:Int)=true\/(Jbz ((s[k]'am).toNat:Int)=false/\Zh ((s[k]'am).toNat:Int)=true)\/(Jbz ((s[k]'am).toNat:Int)=false/\Zh ((s[k]'am).toNat:Int)=false/\(((s[k]'am).toNat:Int) != 95)=false):=by
     unfold Q5 at hp
     cases h1:Jbz ((s[k]'am).toNat:Int) <;> cases h2:Zh ((s[k]'am).toNat:Int) <;> simp_all
    clear hp
    rcases gL with p1|⟨p1,p2⟩|⟨p1,p2,p3⟩ <;>
    ·go_wp2_with (first|(go_at_call 178;refine(Jjf _ _).mono ?_;rintro r w1 ⟨rfl,rfl⟩)|(go_at_call 169;refine(Jfd _ _).mono ?_;rintro r w1 ⟨rfl,rfl⟩))
     go_roundw
     case rel=>exact⟨k+1,Ua,Up,HR.out,by first|trivial|rfl⟩
     case measure=>simp [intOf];omega
  ·rw [dif_neg am] at aa;have bk:k=s.size:=Ua;have HR:=Lib.hid aa;clear aa hf gO
   go_wp2_with fail
   go_ret;exact⟨Jm (by rw [<-HR.out];omega),rfl⟩
theorem Jtq (l:List ByteArray) (A:Option Addr) (cap:Nat) (s:ByteArray) (w:World) (hl:Qf w l A cap) :
  Calls Tryz.prog 179 #[.slice A l.length cap,.string s] w fun r w'=>r = .returned (.bool (l.any fun x=>x.toList == s.toList))/\Below w.heap.size w w':=by
 have ai:=hl.len;unfold maxLen at ai;obtain⟨jD,jE⟩:=ai
 go_enter Tryz.func179,Tryz.ntmps179
 go_wp2_with fail
 go_loopw [5] (fun i wr=>∃k:Nat,k<=l.length/\i = .int .i64 k/\((l.drop k).any fun x=>x.toList == s.toList)=(l.any fun x=>x.toList == s.toList)/\Below w.heap.size w wr) (fun i _=>l.length-(intOf i).toNat)
 case atStart=>exact⟨0,Nat.zero_le _,rfl,rfl,Jb⟩
 case round=>
  obtain⟨k,hk,rfl,aa,ab⟩:=hrel
  by_cases am:k<l.length
  ·have hx:l[k]?=some l[k]:=List.getElem?_eq_getElem am;have hd:l.drop k=l[k] :: l.drop (k+1):=List.drop_eq_getElem_cons am;generalize l[k]=x at hx hd;obtain⟨b,off,rfl,aH,d0⟩:=(hl.later ab).get hx;rw [hd,List.any_cons] at aa;exact Uax
  ·obtain rfl:k=l.length:=Ua;rw [List.drop_length,List.any_nil] at aa;have HR:=Lib.hid aa;clear aa
   go_wp2_with fail
   exact Udg
def Jk0:List ByteArray:=[⟨#[110,111,100,101]⟩,⟨#[114,101,116,117,114,110,115]⟩,⟨#[118,97,114]⟩,⟨#[108,101,116]⟩,⟨#[116,101,108]⟩,⟨#[105,102]⟩,⟨#[116,104,101,110]⟩,⟨#[101,108,115,101]⟩,⟨#[102,98,121]⟩,⟨#[112,114,101]⟩,⟨#[119,104,101,110]⟩,⟨#[117,110,108,101,115,115]⟩,⟨#[109,101,114,103,101]⟩,⟨#[110,111,116]⟩,⟨#[116,114,117,101]⟩,⟨#[102,97,108,115,101]⟩,⟨#[105,110,116]⟩,⟨#[98,111,111,108]⟩]
theorem Jvs (a b:List UInt8):(a == b)=(b == a):=by
 rw [Bool.eq_iff_iff];simp;exact eq_comm
theorem Juo (s:ByteArray):(Jk0.any fun x=>x.toList == s.toList)=Jdo s:=by
 have h:∀a:ByteArray,(a.toList == s.toList)=(s.toList == a.data.toList):=fun a=>by rw [Jvs,ByteArray.toList_eq a]
 unfold Jk0 Jdo;simp only [List.any_cons,List.any_nil,Bool.or_false,h,Bool.or_assoc]
theorem Jrs (s:ByteArray) (w:World):Calls Tryz.prog 171 #[.string s] w fun r w'=>r = .returned (.bool (Jdo s))/\Below w.heap.size w w':=by
 have ham:=fun W A h=>Jtq Jk0 A Jk0.length s W h;rw [Juo] at ham
 go_enter Tryz.func171,Tryz.ntmps171
 go_wp2_with (go_at_call 179;go_loud (refine(ham _ _ (Qf.made _ Jk0 _ _ rfl (by unfold maxLen;decide))).mono ?_;rintro r w1 ⟨rfl,ac⟩))
 go_ret;exact⟨rfl,Jb⟩
theorem Xt (s:ByteArray) (w:World):Calls Tryz.prog 154 #[.string s] w fun r w'=>r = .returned (.bool (Kz s))/\Below w.heap.size w w':=by
 by_cases h0:0<s.size
 ·by_cases h1:s.size<=16
  ·have hb:s[0].toNat<256:=UInt8.toNat_lt _;have hv:Kz s=(Zh (s[0].toNat:Int) && decide (Zb Q5 s (s.size+1) 0=s.size) && !Jdo s):=Mi;rw [Joe s (s.size+1) 0 Ua Ua] at hv;have eH:=fun W=>Jva s W Ua
   have hx:(((Jda Q5 s (s.size+1) 0:Nat):Int) == (s.size:Int))=decide (Jda Q5 s (s.size+1) 0=s.size):=by
    by_cases h:Jda Q5 s (s.size+1) 0=s.size
    ·rw [h];simp
    ·rw [decide_eq_false h];simp;omega
   generalize Jda Q5 s (s.size+1) 0=rn at *;have HV:=Lib.hid hv;clear hv
   cases h2:Zh (s[0].toNat:Int) <;> cases h3:decide (rn=s.size) <;> rw [h3] at hx <;> cases h4:Jdo s <;>
   ·rw [h2,h3,h4] at HV;clear h3
    go_enter Tryz.func154,Tryz.ntmps154
    go_wp2_with (first|(go_at_call 169;refine(Jfd _ _).mono ?_;rintro r w1 ⟨rfl,rfl⟩)|(go_at_call 170;refine(eH _).mono ?_;rintro r w1 ⟨rfl,rfl⟩)|(go_at_call 171;refine(Jrs _ _).mono ?_;rintro r w1 ⟨rfl,ac⟩))
    go_ret;exact⟨Jk Vi,Jb⟩
  ·have hv:Kz s=false:=Mi;have HV:=Lib.hid hv;clear hv
   go_enter Tryz.func154,Tryz.ntmps154
   exact Ude
 ·have hv:Kz s=false:=by unfold Kz;rw [dif_neg h0]
  have HV:=Lib.hid hv;clear hv;obtain rfl:=Je2 h0
  go_enter Tryz.func154,Tryz.ntmps154
  exact Ude
def Jb7:Nat->Nat->List UInt8->List UInt8
 | 0,_,acc=>acc
 | f+1,n,acc=>if n / 10=0 then UInt8.ofNat (48+n % 10) :: acc else Jb7 f (n / 10) (UInt8.ofNat (48+n % 10) :: acc)
def Jgk (a:Int):List UInt8:=if a<0 then 45 :: Jb7 10 a.natAbs [] else Jb7 10 a.natAbs []
def Zn (a:Int):ByteArray:=⟨(Jgk a).toArray⟩
def Xy (l:List UInt8):List Value:=List.replicate (11-l.length) (.int .u8 0) ++ l.map (fun c=> .int .u8 c.toNat)
theorem Jn5 (n:Nat) (h:n<256):(UInt8.ofNat n).toNat=n:=Uj
theorem Js6 {l:List UInt8} (h:l.length<=11) {j:Nat} {c:UInt8} (hc:l[j]?=some c):(Xy l)[11-l.length+j]?=some (.int .u8 c.toNat):=by
 unfold Xy;rw [List.getElem?_append_right Ul];simp [hc]
theorem Jga {l:List UInt8} {x:Nat} (h:x+l.length<11):(Xy l)[x]?=some (.int .u8 0):=by
 unfold Xy;rw [List.getElem?_append_left Uj];simp [List.getElem?_replicate];omega
theorem Jhc {l:List UInt8} {x:Nat} {c:UInt8} {v:Int} (h:x+l.length=10) (hv:v=(c.toNat:Int)):(Xy l).set x (.int .u8 v)=Xy (c :: l):=by
 subst hv;unfold Xy;have e1:11-l.length=x+1:=Ua;have e2:11-(c :: l).length=x:=Uj;rw [e1,e2,List.set_append_left _ _ Ul];rw [List.replicate_succ',List.set_append_right _ _ Ul];exact Ul
theorem Jlh (l:List UInt8):∀(r:ByteArray),(l.map fun c:UInt8=>(c.toNat:Int)).foldl (fun r n=>r.push (UInt8.ofNat n.toNat)) r=⟨(r.data.toList ++ l).toArray⟩:=by
 induction l with
 | nil=>intro r;cases r;simp
 | cons c l ih=>
  intro r;rw [List.map_cons,List.foldl_cons,ih]
  congr 1
  simp
theorem Jje (w:World) (l:List UInt8) (hl:l.length<=11) (n c:Nat) (hn:n=l.length) :
  (convert 98 9 (.slice (some ⟨w.heap.size,11-l.length,none⟩) n c)).run Tryz.prog (w.alloc (.cells (Xy l).toArray 217)) = .ok (.string ⟨l.toArray⟩) (w.alloc (.cells (Xy l).toArray 217)):=by
 subst hn;rw [run_convert_bytes_string _ _ _ _ _ _ _ Tryz.underlying98 Tryz.underlying5 Tryz.underlying9]
 have oQ:(loadCells ⟨w.heap.size,11-l.length,none⟩ l.length).run Tryz.prog (w.alloc (.cells (Xy l).toArray 217)) = .ok ((l.map fun c:UInt8=>(c.toNat:Int)).map (Value.int .u8)).toArray (w.alloc (.cells (Xy l).toArray 217)):=by
  have:=run_loadCells_list (P:=Tryz.prog) (w.alloc (.cells (Xy l).toArray 217)) ⟨w.heap.size,11-l.length,none⟩ ((l.map fun c:UInt8=>(c.toNat:Int)).map (Value.int .u8)) (fun j v hj=>by
   have cQ:(⟨w.heap.size,11-l.length,none⟩:Addr).add j=⟨w.heap.size,11-l.length+j,none⟩:=Lq;rw [cQ,cell_of_row _ _ _ _ _ _ (heap_alloc_new w _)];simp only [List.map_map,List.getElem?_map,Option.map_eq_some_iff] at hj;obtain⟨c,hc,rfl⟩:=hj;simpa using Js6 hl hc)
  simpa using this
 rw [run_bytesToString _ _ _ _ _ oQ,Jlh];simp
theorem Jog:∀f m l,(Jb7 f m l).length<=f+l.length
 | 0,_,_=>by simp [Jb7]
 | f+1,m,l=>by
  unfold Jb7
  split
  ·exact Uj
  ·have:=Jog f (m / 10) (UInt8.ofNat (48+m % 10) :: l);simp only [List.length_cons] at this;omega
theorem Jie (w:World) (y:Nat) (hy:y<11) (W:World):(Instr.sliceAt 217 (.pointer (some ⟨w.heap.size,0,none⟩)) (some (.int .i64 (y:Int))) none none).run Tryz.prog W = .ok (.slice (some ⟨w.heap.size,y,none⟩) (11-y) (11-y)) W:=by
 have hn:Tryz.prog.arrayLen 217=11:=Ug;have hs:(sizeOf (Tryz.prog.elem 217)).run Tryz.prog W = .ok 1 W:=Ug;rw [run_sliceAt_array_l W 217 ⟨w.heap.size,0,none⟩ Ug .i64 y Ua (by rw [hn];omega),hs];simp only [Result.andThen,slicedAt,hn,Int.toNat_natCast,Nat.mul_one];rw [if_neg Ua]
 congr 4
 unfold Addr.add
 split
 ·simp_all
 ·exact Ul
theorem Jtb (a:Int) (w:World) (h1 : -2147483648<=a) (h2:a<=2147483647) :
  Calls Tryz.prog 149 #[.int .i32 a] w fun r w'=>r = .returned (.string (Zn a))/\Below w.heap.size w w':=by
 by_cases h:a<0
 ·go_enter Tryz.func149,Tryz.ntmps149
  go_wp2_with fail
  go_loopg [4,5] 10 (fun f i n wr=>∃(m x:Nat) (ds:List UInt8),x=f/\1<=x/\x+ds.length=10/\m<10 ^ f/\i = .int .i64 ((x:Int)+1)/\n = .int .i64 m/\Jb7 f m ds=Jb7 10 a.natAbs []/\wr=w.alloc (.cells (Xy ds).toArray 217))
  case atStart=>exact⟨a.natAbs,10,[],rfl,Ua,rfl,Ua,rfl,by congr 1;omega,rfl,rfl⟩
  case round=>
   obtain⟨m,x,ds,rfl,hx0,hx,hm,rfl,rfl,aa,rfl⟩:=hrel;have ev:(Xy ds).toArray[x]?=some (.int .u8 0):=by simpa using Jga Ua
   have bW:(Xy ds).set x (.int .u8 (48+(m:Int) % 10))=Xy (UInt8.ofNat (48+m % 10) :: ds):=Jhc hx (by rw [Jn5 _ Ua];omega);have hx11:(x:Int)<11:=Ua;have xF:x<11:=Ua
   have xG:m<=10000000000:=by
    have:=Nat.pow_le_pow_right (n:=10) Ua (show x<=10 by omega);exact Ua
   obtain⟨y,rfl⟩:∃y,x=y+1:=⟨x-1,Ua⟩;have cI:m / 10<10 ^ y:=D9;rw [Jb7] at aa
   by_cases hd:m / 10=0
   ·rw [if_pos hd] at aa;generalize UInt8.ofNat (48+m % 10)=d at aa bW;have hcell2:(Xy (d :: ds)).toArray[y]?=some (.int .u8 0):=by simpa using Jga Uj
    have hset2:(Xy (d :: ds)).set y (.int .u8 45)=Xy (45 :: d :: ds):=Jhc Uj Gd;have hy11:(y:Int)<11:=Ua;have oR:y<11:=Ua;have dF:=Jie w y oR;have ky:=Jje w (45 :: d :: ds) Uj (11-y) (11-y) Uj;have e11:11-(45 :: d :: ds).length=y:=Uj;rw [e11] at ky;clear e11;have hv:Zn a=⟨(45 :: d :: ds).toArray⟩:=by unfold Zn Jgk;rw [if_pos Ua,<-aa]
    exact Uco
   ·exact Uau
 ·go_enter Tryz.func149,Tryz.ntmps149
  go_wp2_with fail
  go_loopg [4,5] 10 (fun f i n wr=>∃(m x:Nat) (ds:List UInt8),x=f/\1<=x/\x+ds.length=10/\m<10 ^ f/\i = .int .i64 ((x:Int)+1)/\n = .int .i64 m/\Jb7 f m ds=Jb7 10 a.natAbs []/\wr=w.alloc (.cells (Xy ds).toArray 217))
  case atStart=>exact⟨a.natAbs,10,[],rfl,Ua,rfl,Ua,rfl,by congr 1;omega,rfl,rfl⟩
  case round=>
   obtain⟨m,x,ds,rfl,hx0,hx,hm,rfl,rfl,aa,rfl⟩:=hrel;have ev:(Xy ds).toArray[x]?=some (.int .u8 0):=by simpa using Jga Ua
   have bW:(Xy ds).set x (.int .u8 (48+(m:Int) % 10))=Xy (UInt8.ofNat (48+m % 10) :: ds):=Jhc hx (by rw [Jn5 _ Ua];omega);have hx11:(x:Int)<11:=Ua;have xF:x<11:=Ua
   have xG:m<=10000000000:=by
    have:=Nat.pow_le_pow_right (n:=10) Ua (show x<=10 by omega);exact Ua
   obtain⟨y,rfl⟩:∃y,x=y+1:=⟨x-1,Ua⟩;have cI:m / 10<10 ^ y:=D9;rw [Jb7] at aa
   by_cases hd:m / 10=0
   ·rw [if_pos hd] at aa;generalize UInt8.ofNat (48+m % 10)=d at aa bW;have hy11:(y:Int)+1<11:=Ua;have oR:y+1<11:=Ua;have dF:=Jie w (y+1) oR;rw [show((y+1:Nat):Int)=(y:Int)+1 from by omega] at dF;have ky:=Jje w (d :: ds) Uj (10-y) (10-y) Uj;have e11:11-(d :: ds).length=y+1:=Uj;rw [e11] at ky;clear e11;have hv:Zn a=⟨(d :: ds).toArray⟩:=by unfold Zn Jgk;rw [if_neg Ua,<-aa]
    exact Uco
   ·exact Uau
end Go.Proofs.YtknfcamdfdfoeaaGreatDoor
namespace Go.Proofs.YtknfcamdfdfoeaaGreatDoor
open Go.RowKit
def Ja6 (n:Int):ByteArray:=
 if n=1 then⟨#[43]⟩
 else if n=2 then⟨#[45]⟩
 else if n=3 then⟨#[42]⟩
 else if n=4 then⟨#[47]⟩
 else if n=5 then⟨#[37]⟩
 else if n=6 then⟨#[60,60]⟩
 else if n=7 then⟨#[62,62]⟩
 else if n=8 then⟨#[38]⟩
 else if n=9 then⟨#[124]⟩
 else if n=10 then⟨#[94]⟩
 else if n=11 then⟨#[61]⟩
 else if n=12 then⟨#[60,62]⟩
 else if n=13 then⟨#[60]⟩
 else if n=14 then⟨#[60,61]⟩
 else if n=15 then⟨#[62]⟩
 else if n=16 then⟨#[62,61]⟩
 else⟨#[]⟩
def brk (k:Int) (t:ByteArray):ByteArray:=if k=1\/k=2\/k=3\/k=8\/k=9 then t else⟨#[40]⟩ ++ t ++ ⟨#[41]⟩
def Ye (k n:Int) (s:ByteArray) (ts:List ByteArray):ByteArray:=
 if k=1 then Zn n
 else if k=2 then(if n=0 then⟨#[102,97,108,115,101]⟩ else⟨#[116,114,117,101]⟩)
 else if k=4 then(if n=2 then⟨#[110,111,116,32]⟩ ++ ts.getD 0 ⟨#[]⟩ else⟨#[45]⟩ ++ ts.getD 0 ⟨#[]⟩)
 else if k=5 then ts.getD 0 ⟨#[]⟩ ++ ⟨#[32]⟩ ++ Ja6 n ++ ⟨#[32]⟩ ++ ts.getD 1 ⟨#[]⟩
 else if k=6 then⟨#[105,102,32]⟩ ++ ts.getD 0 ⟨#[]⟩ ++ ⟨#[32,116,104,101,110,32]⟩ ++ ts.getD 1 ⟨#[]⟩ ++ ⟨#[32,101,108,115,101,32]⟩ ++ ts.getD 2 ⟨#[]⟩
 else if k=7 then ts.getD 0 ⟨#[]⟩ ++ ⟨#[32,45,62,32]⟩ ++ ts.getD 1 ⟨#[]⟩
 else if k=8 then ts.getD 0 ⟨#[]⟩ ++ ⟨#[32,119,104,101,110,32]⟩ ++ s
 else if k=9 then ts.getD 0 ⟨#[]⟩ ++ ⟨#[32,117,110,108,101,115,115,32]⟩ ++ s
 else if k=10 then⟨#[109,101,114,103,101,32]⟩ ++ s ++ ⟨#[32]⟩ ++ ts.getD 0 ⟨#[]⟩ ++ ⟨#[32]⟩ ++ ts.getD 1 ⟨#[]⟩
 else s
namespace Ex
mutual
def showB:Ex->ByteArray
 | mk k n s l=>Ye k n s (showL (k == 6) l)
def showL (f:Bool):List Ex->List ByteArray
 | []=>[]
 | x :: l=>(if f then showB x else brk x.kind (showB x)) :: showL f l
end
theorem showB_eq (e:Ex):e.showB=Ye e.kind e.n e.name (showL (e.kind == 6) e.sub):=by cases e;simp [showB,kind,n,name,sub]
def partB (x:Ex):ByteArray:=brk x.kind x.showB
theorem showL_map (f:Bool) (l:List Ex):showL f l=l.map fun x=>if f then x.showB else x.partB:=by
 induction l with
 | nil=>simp [showL]
 | cons x l ih=>simp [showL,ih,partB]
theorem showL_len (f:Bool) (l:List Ex):(showL f l).length=l.length:=by simp [showL_map]
end Ex
theorem Kq (a b:ByteArray):(a ++ b).size=a.size+b.size:=by simp [ByteArray.size_append]
theorem Ko (l:Array UInt8):(ByteArray.mk l).size=l.size:=rfl
theorem Jkk (k:Int) (t:ByteArray):(brk k t).size<=t.size+2:=by
 unfold brk;split
 ·exact Ua
 ·exact Uk
theorem Jhr (n:Int):(Ja6 n).size<=2:=by
 unfold Ja6
 by_cases h1:n=1
 ·rw [if_pos h1];decide
 rw [if_neg h1]
 by_cases h2:n=2
 ·rw [if_pos h2];decide
 rw [if_neg h2]
 by_cases h3:n=3
 ·rw [if_pos h3];decide
 rw [if_neg h3]
 by_cases h4:n=4
 ·rw [if_pos h4];decide
 rw [if_neg h4]
 by_cases h5:n=5
 ·rw [if_pos h5];decide
 rw [if_neg h5]
 by_cases h6:n=6
 ·rw [if_pos h6];decide
 rw [if_neg h6]
 by_cases h7:n=7
 ·rw [if_pos h7];decide
 rw [if_neg h7]
 by_cases h8:n=8
 ·rw [if_pos h8];decide
 rw [if_neg h8]
 by_cases h9:n=9
 ·rw [if_pos h9];decide
 rw [if_neg h9]
 by_cases bM:n=10
 ·rw [if_pos bM];decide
 rw [if_neg bM]
 by_cases gh:n=11
 ·rw [if_pos gh];decide
 rw [if_neg gh]
 by_cases eG:n=12
 ·rw [if_pos eG];decide
 rw [if_neg eG]
 by_cases h13:n=13
 ·rw [if_pos h13];decide
 rw [if_neg h13]
 by_cases h14:n=14
 ·rw [if_pos h14];decide
 rw [if_neg h14]
 by_cases h15:n=15
 ·rw [if_pos h15];decide
 rw [if_neg h15]
 by_cases h16:n=16
 ·rw [if_pos h16];decide
 rw [if_neg h16];exact Ux
theorem Jqr (a:Int):(Zn a).size<=11:=by
 unfold Zn Jgk;rw [Ko];have:=Jog 10 a.natAbs []
 split <;> simp at this ⊢ <;> omega
theorem Jr4 {a b:Int} (h:(a == b)=true):a=b:=Ve
theorem Jgu {s:ByteArray} (h:Kz s=true\/s.toList.isEmpty=true):s.size<=16:=by
 rcases h with h|h
 ·exact Jaf h
 ·rw [ByteArray.toList_eq] at h
  have:s.data.size=0:=by
   rw [<-Array.length_toList,List.isEmpty_iff.1 h];rfl
  rw [<-ByteArray.size_data,this];omega
namespace Ex
theorem formed_sub {e x:Ex} (h:e.formed=true) (hx:x∈e.sub):x.formed=true:=by
 rw [formed_eq,Bool.and_eq_true] at h
 have:∀l:List Ex,formedL l=true->∀x∈l,x.formed=true:=by
  intro l
  induction l with
  | nil=>intro _ x hx;cases hx
  | cons y l ih=>
   intro h x hx;simp only [formedL,Bool.and_eq_true] at h
   rcases List.mem_cons.1 hx with rfl|hx
   ·exact h.1
   ·exact ih h.2 x hx
 exact this _ h.2 x hx
theorem Jp2 {k n:Int} {s:ByteArray} {len:Nat} (h:Jl k n s len=true):(len:Int)=(Jw k).1/\(Kz s=true\/s.toList.isEmpty=true):=by
 simp only [Jl,Bool.and_eq_true,Bool.or_eq_true] at h;refine⟨Jr4 h.1.1.1.1.2,?_⟩
 rcases h.2 with h2|h2
 ·have:=h.1.2;rw [h2] at this;exact .inl (by simpa using this.symm)
 ·exact .inr h2
theorem formed_kind {e:Ex} (h:e.formed=true):(e.sub.length:Int)=(Jw e.kind).1/\e.name.size<=16:=by
 rw [formed_eq,Bool.and_eq_true] at h;obtain⟨h1,h2⟩:=Jp2 h.1;exact⟨h1,Jgu h2⟩
theorem Jr5 (k n:Int) (s:ByteArray) (ts:List ByteArray) (hs:s.size<=16):(Ye k n s ts).size<=(ts.getD 0 ⟨#[]⟩).size+(ts.getD 1 ⟨#[]⟩).size+(ts.getD 2 ⟨#[]⟩).size+30:=by
 have h1:=Jqr n;have h2:=Jhr n;unfold Ye
 repeat' split
 all_goals try simp only [Kq,Ko,List.size_toArray,List.length_cons,List.length_nil]
 all_goals omega
theorem showB_size (e:Ex):e.formed=true->e.showB.size+2<=40 * e.size:=by
 induction e using ind with
 | h e ih=>
  intro hf;have hk:=(formed_kind hf);have hs:=Jr5 e.kind e.n e.name (showL (e.kind == 6) e.sub) hk.2;rw [<-showB_eq] at hs;rw [size_eq]
  have hl:e.sub.length<=3:=by
   have:=hk.1;unfold Jw at this
   repeat' split at this
   all_goals first|omega|(simp at this;omega)
  have hp:∀x∈e.sub,(if (e.kind == 6)=true then x.showB else x.partB).size<=40 * x.size:=by
   intro x hx;have:=ih x hx (formed_sub hf hx);have hb:=Jkk x.kind x.showB
   split
   ·exact Ua
   ·unfold partB;omega
  rw [showL_map] at hs;generalize aT:e.sub=l at hs hl hp
  match l,hl,hp with
  | [],_,_=>simp only [List.map_nil,List.getD_nil,Ko,List.size_toArray,List.length_nil] at hs;simp only [sizeL];omega
  | [a],_,hp=>
   have ha:=hp a Ul;simp only [List.map_cons,List.map_nil,List.getD_cons_zero,List.getD_cons_succ,List.getD_nil,Ko,List.size_toArray,List.length_nil] at hs;simp only [sizeL];omega
  | [a,b],_,hp=>
   have ha:=hp a Ul;have hb:=hp b Ul;simp only [List.map_cons,List.map_nil,List.getD_cons_zero,List.getD_cons_succ,List.getD_nil,Ko,List.size_toArray,List.length_nil] at hs;simp only [sizeL];omega
  | [a,b,c],_,hp=>
   have ha:=hp a Ul;have hb:=hp b Ul;have hc:=hp c Ul;simp only [List.map_cons,List.map_nil,List.getD_cons_zero,List.getD_cons_succ,List.getD_nil,Ko,List.size_toArray,List.length_nil] at hs;simp only [sizeL];omega
end Ex
theorem Jt2 (e:Ex):∀(A:Option Addr) (cap:Nat) (most:Int) (w:World),Jt w e A cap->-1000000<=most->most<=1000000->
  Calls Tryz.prog 166 #[exV e A cap,.int .i64 most] w fun r w'=>r = .returned (.int .i64 (e.count most))/\Below w.heap.size w w':=by
 induction e using Ex.ind with
 | h e ih=>
 intro A cap most w he hm cI;have hl:=he.len;unfold maxLen at hl;obtain⟨bI,aD⟩:=hl;unfold exV
 go_enter Tryz.func166,Tryz.ntmps166
 go_wp2_with fail
 go_loopw [5,11] (fun m i wr=>∃(k:Nat) (m':Int),k<=e.sub.length/\i = .int .i64 k/\m = .int .i64 m'/\1<=m'/\m'<=max 1 most/\Ex.countL (e.sub.drop k) m' most=e.count most/\Below w.heap.size w wr) (fun _ i _=>e.sub.length-(intOf i).toNat)
 case atStart=>exact⟨0,1,Nat.zero_le _,rfl,rfl,Ua,Ua,by simp [Ex.count_eq],Jb⟩
 case round=>
  obtain⟨k,m',hk,rfl,rfl,h0,h1,aa,ab⟩:=hrel
  by_cases am:k<e.sub.length
  ·have hx:e.sub[k]?=some e.sub[k]:=List.getElem?_eq_getElem am;have aj:e.sub[k]∈e.sub:=List.getElem_mem am;have hd:e.sub.drop k=e.sub[k] :: e.sub.drop (k+1):=List.drop_eq_getElem_cons am;generalize e.sub[k]=x at hx aj hd;obtain⟨b,off,A',cap',rfl,c0,c1,c2,c3,hs⟩:=(he.later ab).get hx;rw [hd,Ex.countL] at aa;have ct:=Ex.count_bd x (most-m');have ihx:=ih x aj
   by_cases qK:m'>=most
   ·rw [if_pos qK] at aa;have HR:=Lib.hid aa;clear aa hd hx;exact Uda
   ·rw [if_neg qK] at aa;have HR:=Lib.hid aa;clear aa hd hx
    go_wp2_with (go_at_call 166;refine(ihx A' cap' (most-m') _ (hs.later Jb) Ua Ua).mono ?_;rintro r w1 ⟨rfl,ac⟩)
    exact Ucm
  ·exact Ubs
end Go.Proofs.YtknfcamdfdfoeaaGreatDoor
