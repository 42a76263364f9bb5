/- Lemmas for LedgerPlays. -/
import Derived.Test.YtfdmbomlkpkegaaGreatS39
import Derived.Test.YtfdmbomlkpkegaaGreatS31
import Derived.Test.YtfdmbomlkpkegaaGreatS33
set_option maxRecDepth 100000
set_option maxHeartbeats 8000000
set_option linter.all false
namespace Go.Proofs.YtfdmbomlkpkegaaGreat
open Go Go.RowKit Go.Dr Go.Shelf
def Vx (r q:Nat) (lv:Value):Nat->Prop:=fun b=>b=r\/b=q\/lv.ownBlock=some b
section
variable [bn:Inhabited Ban] {base:Nat} {w w':World} {r xq:Nat} {lvd:Value} {x:Qn} {width:Nat} {size safe:Int}
theorem Jg.kindD (h:Jg base w r xq lvd x width size safe) {b:Nat} (hb:Vx r xq lvd b):base<=b/\∃ cs t,w.heap[b]?=some (.cells cs t (0,0))/\(t=157\/t=119\/t=244):=by
 rcases hb with rfl | rfl | hb
 ·exact ⟨h.pb,_,_,h.blk,.inl rfl⟩
 ·exact ⟨h.rdisk.qb,_,_,h.rdisk.blk,.inr (.inl rfl)⟩
 ·obtain ⟨h1,cur,hz⟩:=h.rdisk.calls.kind b hb
  exact ⟨h1,_,_,hz,.inr (.inr rfl)⟩
theorem Jg.footD (h:Jg base w r xq lvd x width size safe):Foot base w (Vx r xq lvd):=fun b hb=>by
 obtain ⟨h1,cs,t,hz,ht⟩:=h.kindD hb
 refine ⟨h1,Qt hz,fun cs' fr e=>?_⟩
 rw [hz] at e
 simp at e
 obtain ⟨_,rfl,_⟩:=e
 rcases ht with ht | ht | ht <;> simp at ht
theorem Jg.footDR (h:Jg base w r xq lvd x width size safe):Zn w (Vx r xq lvd):=by
 rintro b hb ⟨cs',fr,e⟩
 obtain ⟨h1,cs,t,hz,ht⟩:=h.kindD hb
 rw [hz] at e
 simp at e
 obtain ⟨_,rfl,_⟩:=e
 rcases ht with ht | ht | ht <;> simp at ht
theorem Jg.keepD {F:Nat->Prop} (h:Jg base w r xq lvd x width size safe) (hF:Foot base w F) (k:Keep F w w') (hn:∀ b,Vx r xq lvd b->¬F b):Jg base w' r xq lvd x width size safe :=
 ⟨k.heap h.blk (hn r (.inl rfl)),⟨k.heap h.rdisk.blk (hn xq (.inr (.inl rfl))),h.rdisk.calls.keep hF k (fun b hb=>hn b (.inr (.inr hb))),h.rdisk.qb⟩,h.pb⟩
theorem RR.keepD {F:Nat->Prop} {ss:List SegL} {ts:List LRec} {L:LedS} {j cnt:Nat} {d:Qr} (h:RR base w r xq lvd x width size safe ss ts L j cnt d) (hF:Foot base w F) (k:Keep F w w') (hn:∀ b,Vx r xq lvd b->¬F b):RR base w' r xq lvd x width size safe ss ts L j cnt d :=
 ⟨h.mem.keepD hF k hn,h.lg7,h.jle,h.tls,h.okL,h.few⟩
theorem Rc {q g m p n s:Nat} {lv wv sgv rlv:Value} {size':Int} {width':Nat} {ss:List SegL} {ts:List LRec} {d:Qr} {L:LedS} (hl:Zc base w q g m lv p n s wv sgv rlv width' size' ss ts d L) (h:Jg base w r xq lvd x width size safe):∀ b,Vx r xq lvd b->¬Qi q g m lv p n s wv sgv rlv b:=by
 intro b hb hf
 obtain ⟨_,cs,t,hz,ht⟩:=h.kindD hb
 rcases hf with hf | hf | hf
 ·obtain ⟨_,h3⟩:=hl.led.kind hf
  rcases h3 with ⟨cs',t',e,ht'⟩ | ⟨es,clock,e⟩
  ·rw [hz] at e;simp at e;obtain ⟨_,rfl⟩:=e
   rcases ht with rfl | rfl | rfl <;> rcases ht' with ht' | ht' <;> simp at ht'
  ·rw [hz] at e;cases e
 ·rcases hf with rfl | rfl | rfl | hf
  ·have e:=hl.dk.blk
   rw [hz] at e;simp at e;obtain ⟨_,rfl⟩:=e
   rcases ht with ht | ht | ht <;> simp at ht
  ·obtain ⟨_,_,e,_⟩:=hl.dk.now;rw [hz] at e;cases e
  ·obtain ⟨_,_,e,_⟩:=hl.dk.safe;rw [hz] at e;cases e
  ·obtain ⟨_,cur,e⟩:=hl.dk.wait.kind b hf
   rw [hz] at e;simp at e;obtain ⟨_,rfl⟩:=e
   rcases ht with ht | ht | ht <;> simp at ht
 ·obtain ⟨_,cs',t',e,ht'⟩:=hl.lg.kind hf
  rw [hz] at e;simp at e;obtain ⟨_,rfl⟩:=e
  rcases ht with rfl | rfl | rfl <;> rcases ht' with ht' | ht' | ht' <;> simp at ht'
end
structure Gr (width:Nat) (ts:List LRec) (cnt:Nat) (L:LedS):Prop where
 le:cnt<=ts.length
 recs:L.recs.take L.safe=(told width (ts.take cnt)).recs
 ags:L.ag.map (·.safe)=(told width (ts.take cnt)).ag.map (·.now)
theorem Gr.sync {width:Nat} {ts:List LRec} {L:LedS} (h:Jc width ts L):Gr width ts ts.length L.sync:=by
 refine ⟨Nat.le_refl _,?_,?_⟩
 ·rw [List.take_length,<- h.recs]
  show L.recs.take L.recs.length=L.recs
  exact List.take_length
 ·rw [List.take_length]
  have h1:=congrArg (List.map Prod.snd) h.now
  unfold LedS.now at h1
  rw [List.map_map,List.map_map] at h1
  show (L.ag.map (fun g=>{ g with safe:=g.now })).map (·.safe)=_
  rw [List.map_map]
  exact h1
theorem modify_map {α β:Type} {l:List α} {a:Nat} {f:α->α} {g:α->β} (h:∀ x,g (f x)=g x):(l.modify a f).map g=l.map g:=by
 apply List.ext_getElem?
 intro i
 rw [List.getElem?_map,List.getElem?_map,List.getElem?_modify]
 cases l[i]? with
 | none=>rfl
 | some x =>
  by_cases hi:a=i
  ·simp [hi,h]
  ·simp [hi]
theorem Gr.push {width cnt:Nat} {ts:List LRec} {L:LedS} (h:Gr width ts cnt L) (r:LRec) (hs:L.safe<=L.recs.length):Gr width (ts++[r]) cnt (L.step r):=by
 have e:(ts++[r]).take cnt=ts.take cnt:=List.take_append_of_le_length h.le
 refine ⟨by have:=h.le;simp;omega,?_,?_⟩
 ·rw [e,<- h.recs]
  cases r with
  | inc n=>rfl
  | floor a n=>rfl
  | put a b l =>
   show (L.recs++_).take L.safe=_
   rw [List.take_append_of_le_length hs]
 ·rw [e,<- h.ags]
  cases r with
  | inc n=>rfl
  | floor a n=>exact modify_map (fun _=>rfl)
  | put a b l=>exact modify_map (fun _=>rfl)
theorem both_append {j cnt:Nat} {ts:List LRec} {ss:List SegL} {d:Qr} {x:Qn} (h:Log7 j cnt (Zk ts) ss d x) (hj:j<=999) (size:Int) (L:LedS) (r:LRec) (hr:r.bytes.length<=1000) :
  ∃ c ss' ts' d' x' L',Ha c size ss ts d L r ss' ts' d' L'/\x.append (appS (logD size ss)).n (appB (logD size ss) r.bytes)=(x',c)/\Log7 (j+1) cnt (Zk ts') ss' d' x'/\((c=0/\ts'=ts++[r]/\L'=L.step r)\/(c=5/\ts'=ts/\L'=L)):=by
 obtain ⟨_,hr2⟩:=h.rel.append (appS (logD size ss)).n (appB (logD size ss) r.bytes)
 rcases h.code (appS (logD size ss)).n (appB (logD size ss) r.bytes) with hc | hc
 ·obtain ⟨ss',happ,h7⟩:=h.append (by omega) size r.bytes hr hc
  refine ⟨0,ss',ts++[r],(d.append (appS (logD size ss)).n (appB (logD size ss) r.bytes)).1,(x.append (appS (logD size ss)).n (appB (logD size ss) r.bytes)).1,L.step r,⟨Prod.ext rfl hc,.inl ⟨rfl,happ,rfl,rfl⟩⟩,Prod.ext rfl (by rw [<- hr2];exact hc),?_,.inl ⟨rfl,rfl,rfl⟩⟩
  have e:Zk (ts++[r])=Zk ts++[r.bytes]:=by simp [Zk]
  rw [e]
  exact h7
 ·have hx:(x.append (appS (logD size ss)).n (appB (logD size ss) r.bytes)).2=5:=by rw [<- hr2];exact hc
  exact ⟨5,ss,ts,d,x,L,⟨Prod.ext (append_five hc) hc,.inr ⟨rfl,rfl,rfl,rfl⟩⟩,Prod.ext (xappend_five hx) hx,h.mono (by omega),.inr ⟨rfl,rfl,rfl⟩⟩
def Hm (width:Nat) (ts:List LRec):Prop:=∀ k,k<=ts.length->(told width (ts.take k)).recs.length<=8*k/\(told width (ts.take k)).inc<=k
theorem Hm.push {width:Nat} {ts:List LRec} (h:Hm width ts) (r:LRec) (h1:((told width ts).step r).recs.length<=(told width ts).recs.length+8) (h2:((told width ts).step r).inc<=(told width ts).inc+1):Hm width (ts++[r]):=by
 intro k hk
 by_cases hl:k<=ts.length
 ·rw [List.take_append_of_le_length hl]
  exact h k hl
 ·have hk2:k=ts.length+1:=by simp at hk;omega
  subst hk2
  have e:(ts++[r]).take (ts.length+1)=ts++[r]:=List.take_of_length_le (by simp)
  have h3:=h ts.length (Nat.le_refl _)
  rw [List.take_length] at h3
  rw [e,Vv]
  omega
theorem Hm.take {width:Nat} {ts:List LRec} (h:Hm width ts) (n:Nat):Hm width (ts.take n):=fun k hk=>by
 rw [List.length_take] at hk
 rw [List.take_take,Nat.min_eq_left (by omega)]
 exact h k (by omega)
structure P16 [bn:Inhabited Ban] (base:Nat) (w:World) (P q g m:Nat) (lv:Value) (p n s:Nat) (wv sgv rlv:Value) (r xq:Nat) (lvd:Value) (width:Nat) (size:Int) (ss:List SegL) (ts:List LRec) (d:Qr) (x:Qn) (L:LedS) (j cnt:Nat):Prop where
 blk:w.heap[P]?=some (.cells #[.pointer (some ⟨q,0,none⟩),.pointer (some ⟨r,0,none⟩),.int .u64 width,.int .i64 size] 37 (0,0))
 led:Zc base w q g m lv p n s wv sgv rlv width size ss ts d L
 doc:RR base w r xq lvd x width size (cnt:Int) ss ts L j cnt d
 safe:Gr width ts cnt L
 sle:L.safe<=L.recs.length
 lit:Hm width ts
 pb:base<=P
def Uj (P q g m:Nat) (lv:Value) (p n s:Nat) (wv sgv rlv:Value) (r xq:Nat) (lvd:Value):Nat->Prop:=fun b=>b=P\/Qi q g m lv p n s wv sgv rlv b\/Vx r xq lvd b
def Pair16 [bn:Inhabited Ban] (base:Nat) (w:World) (P width:Nat) (size:Int) (j:Nat) (B:Nat->Prop):Prop :=
 ∃ q g m lv p n s wv sgv rlv r xq lvd ss ts d x L cnt,P16 base w P q g m lv p n s wv sgv rlv r xq lvd width size ss ts d x L j cnt/\B=Uj P q g m lv p n s wv sgv rlv r xq lvd
section
variable [bn:Inhabited Ban] {base:Nat} {w w':World} {P q g m p n s r xq width j cnt:Nat} {lv wv sgv rlv lvd:Value} {size:Int} {ss:List SegL} {ts:List LRec} {d:Qr} {x:Qn} {L:LedS}
theorem P16.no (h:P16 base w P q g m lv p n s wv sgv rlv r xq lvd width size ss ts d x L j cnt) (k:Keep No w w'):P16 base w' P q g m lv p n s wv sgv rlv r xq lvd width size ss ts d x L j cnt :=
 ⟨k.heap h.blk (fun e=>e),h.led.no k,h.doc.no k,h.safe,h.sle,h.lit,h.pb⟩
theorem P16.many (h:P16 base w P q g m lv p n s wv sgv rlv r xq lvd width size ss ts d x L j cnt):L.recs.length<=8*ts.length:=by
 have:=(h.lit ts.length (Nat.le_refl _)).1
 rw [List.take_length,<- h.led.tl.recs] at this
 exact this
theorem P16.apartP (h:P16 base w P q g m lv p n s wv sgv rlv r xq lvd width size ss ts d x L j cnt):¬Qi q g m lv p n s wv sgv rlv P/\¬Vx r xq lvd P:=by
 have hz:=h.blk
 constructor
 ·rintro (hf | hf | hf)
  ·obtain ⟨_,h3⟩:=h.led.led.kind hf
   rcases h3 with ⟨cs',t',e,ht'⟩ | ⟨es,clock,e⟩
   ·rw [hz] at e;simp at e;obtain ⟨_,rfl⟩:=e
    rcases ht' with ht' | ht' <;> simp at ht'
   ·rw [hz] at e;cases e
  ·rcases hf with rfl | rfl | rfl | hf
   ·have e:=h.led.dk.blk
    rw [hz] at e;simp at e
   ·obtain ⟨_,_,e,_⟩:=h.led.dk.now;rw [hz] at e;cases e
   ·obtain ⟨_,_,e,_⟩:=h.led.dk.safe;rw [hz] at e;cases e
   ·obtain ⟨_,cur,e⟩:=h.led.dk.wait.kind P hf
    rw [hz] at e;simp at e
  ·obtain ⟨_,cs',t',e,ht'⟩:=h.led.lg.kind hf
   rw [hz] at e;simp at e;obtain ⟨_,rfl⟩:=e
   rcases ht' with ht' | ht' | ht' <;> simp at ht'
 ·intro hf
  obtain ⟨_,cs,t,e,ht⟩:=h.doc.mem.kindD hf
  rw [hz] at e;simp at e;obtain ⟨_,rfl⟩:=e
  rcases ht with ht | ht | ht <;> simp at ht
end
def Jh [bn:Inhabited Ban] (base:Nat) (w:World) (P width:Nat) (size:Int) (j:Nat) (B:Nat->Prop) (w':World):Prop :=
 ∃ B',Pair16 base w' P width size j B'/\Keep B w w'/\∀ b,B' b->B b\/w.heap.size<=b
section
variable [bn:Inhabited Ban] {base:Nat} {w w1 w1' w2:World} {P q g m p n s r xq width j cnt:Nat} {lv wv sgv rlv lvd:Value} {size:Int} {ss ss':List SegL} {ts ts':List LRec} {d d':Qr} {x x':Qn} {L L':LedS}
theorem P16.still (h:P16 base w P q g m lv p n s wv sgv rlv r xq lvd width size ss ts d x L j cnt) (hj:j+1<=450) (k:Keep No w w2):Jh base w P width size (j+1) (Uj P q g m lv p n s wv sgv rlv r xq lvd) w2:=by
 have h2:=h.no k
 exact ⟨_,⟨q,g,m,lv,p,n,s,wv,sgv,rlv,r,xq,lvd,ss,ts,d,x,L,cnt,⟨h2.blk,h2.led,⟨h2.doc.mem,h2.doc.lg7.mono (Nat.le_succ _),hj,h2.doc.tls,h2.doc.okL,h2.doc.few⟩,h2.safe,h2.sle,h2.lit,h2.pb⟩,rfl⟩,k.no,fun b hb=>.inl hb⟩
theorem P16.doc1 (h:P16 base w P q g m lv p n s wv sgv rlv r xq lvd width size ss ts d x L j cnt) (k:Keep (Qi q g m lv p n s wv sgv rlv) w w1):RR base w1 r xq lvd x width size (cnt:Int) ss ts L j cnt d :=
 h.doc.keepD h.led.foot k (Rc h.led h.doc.mem)
theorem P16.both (h:P16 base w P q g m lv p n s wv sgv rlv r xq lvd width size ss ts d x L j cnt) (hp:Ga base w q g m p width size ss' ts' d' L' (Qi q g m lv p n s wv sgv rlv) w1) (hk:Keep No w1 w1') (hr:Ho base w1' r xq lvd x' width size (cnt:Int) w2) (h7:Log7 (j+1) cnt (Zk ts') ss' d' x') (hj:j+1<=450)
  (hsf:Gr width ts' cnt L') (hsl:L'.safe<=L'.recs.length) (hm:Hm width ts') (hf:∀ r∈ts',r.bytes.length<=1000):Jh base w P width size (j+1) (Uj P q g m lv p n s wv sgv rlv r xq lvd) w2:=by
 obtain ⟨lv1,n1,s1,wv1,sgv1,rlv1,hL1,k1,ho1⟩:=hp
 obtain ⟨lvd2,hR2,k2,ho2⟩:=hr
 have hR1:=(h.doc1 k1).mem
 have hA:=Rc hL1 hR1
 have hL1':=hL1.no hk
 have hR1':=hR1.no hk
 have hF2:Foot base w1' (·=xq):=fun b e=>by
  have e:b=xq:=e
  subst e
  exact hR1'.footD b (.inr (.inl rfl))
 have hFR2:Zn w1' (·=xq):=fun b e=>by
  have e:b=xq:=e
  subst e
  exact hR1'.footDR b (.inr (.inl rfl))
 have hL2:=hL1'.keep hF2 hFR2 k2 (fun b hb e=>by
  have e:b=xq:=e
  subst e
  exact hA b (.inr (.inl rfl)) hb)
 obtain ⟨hP1,hP2⟩:=h.apartP
 have hb2:=k2.heap (hk.heap (k1.heap h.blk hP1) (fun e=>e)) (fun e=>hP2 (.inr (.inl e)))
 have kk:Keep (Uj P q g m lv p n s wv sgv rlv r xq lvd) w w2:=((k1.mono (fun b _ hb=>.inr (.inl hb))).then hk).trans (k2.mono (fun b _ hb=>.inr (.inr (.inr (.inl hb))))) (fun _ _ e=>e)
 refine ⟨_,⟨q,g,m,lv1,p,n1,s1,wv1,sgv1,rlv1,r,xq,lvd2,ss',ts',d',x',L',cnt,⟨hb2,hL2,⟨hR2,h7,hj,hL1.tl,hL1.ok,hf⟩,hsf,hsl,hm,h.pb⟩,rfl⟩,kk,fun b hb=>?_⟩
 have hs1:w.heap.size<=w1'.heap.size:=Nat.le_trans k1.size hk.size
 rcases hb with hb | hb | hb | hb | hb
 ·exact .inl (.inl hb)
 ·exact (ho1 b hb).imp (fun e=>.inr (.inl e)) id
 ·exact .inl (.inr (.inr (.inl hb)))
 ·exact .inl (.inr (.inr (.inr (.inl hb))))
 ·exact (ho2 b hb).imp (fun e=>.inr (.inr (.inr (.inr e)))) (fun e=>by omega)
end
section
variable [bn:Inhabited Ban] {base:Nat} {w:World} {P q g m p n s r xq width j cnt:Nat} {lv wv sgv rlv lvd:Value} {size:Int} {ss:List SegL} {ts:List LRec} {d:Qr} {x:Qn} {L:LedS}
theorem raise_both (h:P16 base w P q g m lv p n s wv sgv rlv r xq lvd width size ss ts d x L j cnt) (hj:j+1<=450) (hb:base<=w.heap.size) (hT:ban.top<=w.heap.size) (a:Int) (e:Nat) :
  ∃ (c:Int) (A:World->Prop),Calls Tryz.prog 22 #[.pointer (some ⟨q,0,none⟩),.int .i64 a,.int .u64 e] w (fun z w1=>z=.returned (.int .i64 c)/\A w1)/\(∀ w1,A w1->Keep (Qi q g m lv p n s wv sgv rlv) w w1) /\
   ∀ w1,A w1->Calls Tryz.prog 69 #[.pointer (some ⟨r,0,none⟩),.int .i64 a,.int .u64 e] w1 (fun z w2=>z=.returned (.int .i64 c)/\Keep (·=xq) w1 w2/\Jh base w P width size (j+1) (Uj P q g m lv p n s wv sgv rlv r xq lvd) w2):=by
 have hts:=h.doc.many
 have hmany:=h.many
 by_cases ha:a<0\/16<=a
 ·refine ⟨1,fun w1=>w1=w,(gRaise_out w q a e ha).mono (fun z w1 ⟨h1,h2⟩=>⟨h1,h2⟩),fun w1 e=>by rw [e];exact Keep.refl _ _,fun w1 e1=>?_⟩
  subst e1
  refine (r16Raise_bad _ a e (by omega)).mono ?_
  rintro z w2 ⟨h1,rfl⟩
  exact ⟨h1,Keep.refl _ _,h.still hj (Keep.refl _ _)⟩
 ·obtain ⟨a',rfl⟩:∃ a':Nat,a=(a':Int):=⟨a.toNat,by omega⟩
  have ha:a'<16:=by omega
  by_cases he:2305843009213693952<=e
  ·refine ⟨1,fun w1=>w1=w,(gRaise_big a' e ha he).mono (fun z w1 ⟨h1,h2⟩=>⟨h1,h2⟩),fun w1 e=>by rw [e];exact Keep.refl _ _,fun w1 e1=>?_⟩
   subst e1
   refine (r16Raise_bad _ (a':Int) e (by omega)).mono ?_
   rintro z w2 ⟨h1,rfl⟩
   exact ⟨h1,Keep.refl _ _,h.still hj (Keep.refl _ _)⟩
  ·have hlen:=Gz a' e ha (by omega)
   obtain ⟨c,ss',ts',d',x',L',hwr,hap,h7,hcase⟩:=both_append h.doc.lg7 (by omega) size L (.floor a' e) (by omega)
   by_cases hf:e<=L.floor a'
   ·refine ⟨9,fun w1=>w1=w,(gRaise_old h.led.led h.led.ok a' e ha (by omega) hf).mono (fun z w1 ⟨h1,h2⟩=>⟨h1,h2⟩),fun w1 e=>by rw [e];exact Keep.refl _ _,fun w1 e1=>?_⟩
    subst e1
    refine (r16Raise_spec h.doc a' e ha (by omega) hb hT hap).mono ?_
    rintro z w2 ⟨h1,_⟩
    obtain ⟨h1,k⟩:=h1 hf
    exact ⟨h1,k.no,h.still hj k⟩
   ·refine ⟨c,Ga base w q g m p width size ss' ts' d' L' (Qi q g m lv p n s wv sgv rlv),gRaise_g h.led a' e ha (by omega) (by omega) h.doc.lg7.good (by omega) (h.doc.lg7.small (by omega)) (by omega) hb hT hwr,fun w1 hp=>?_,fun w1 hp=>?_⟩
    ·obtain ⟨_,_,_,_,_,_,_,k,_⟩:=hp
     exact k
    ·have hp':=hp
     obtain ⟨_,_,_,_,_,_,_,k,_⟩:=hp'
     refine (r16Raise_spec (h.doc1 k) a' e ha (by omega) (Nat.le_trans hb k.size) (Nat.le_trans hT k.size) hap).mono ?_
     rintro z w2 ⟨_,h1⟩
     obtain ⟨h1,hr⟩:=h1 hf
     have hr':=hr
     obtain ⟨_,_,k2,_⟩:=hr'
     refine ⟨h1,k2,?_⟩
     rcases hcase with ⟨_,rfl,rfl⟩ | ⟨_,rfl,rfl⟩
     ·exact h.both hp (Keep.refl _ _) hr h7 hj (h.safe.push _ h.sle) h.sle (h.lit.push _ (Nat.le_add_right _ _) (Nat.le_add_right _ _)) (fun r hr=>by
       rcases List.mem_append.1 hr with hr | hr
       ·exact h.doc.few r hr
       ·rw [List.mem_singleton.1 hr];omega)
     ·exact h.both hp (Keep.refl _ _) hr h7 hj h.safe h.sle h.lit h.doc.few
end
theorem putR_bounds {L:LedS} {a b:Nat} {l:List Qc} {r:LRec} (h:L.putR a b l=some r) (hr:Yv b l=true) (ha:a<16) (hl8:l.length<=8) (hbl:∀ x∈l,x.s.body.length<=40) :
  r.bytes.length<=600/\(L.step r).recs.length<=L.recs.length+8/\(L.step r).inc=L.inc/\(L.step r).safe=L.safe:=by
 unfold LedS.putR at h
 split at h
 ·cases h
 ·simp only [Option.some.injEq] at h
  subst h
  obtain ⟨hright,hb⟩:=(Jm b l).1 hr
  have hs:=Xi ((L.win a).skip b) l
  have hlen:=hs.length_le
  generalize pick ((L.win a).skip b) l=t at *
  have h1:=Vo (l:=t) (N:=40) (fun x hx=>⟨hright x (hs.subset hx),hbl x (hs.subset hx)⟩)
  have h2:=Qp (n:=a) (by omega)
  have h3:=Qp (n:=b) (by omega)
  have h4:=Qp (n:=t.length) (by omega)
  refine ⟨by simp only [LRec.bytes,List.length_cons,List.length_append];omega,?_,rfl,rfl⟩
  show (L.recs++t.map _).length<=_
  rw [List.length_append,List.length_map]
  omega
section
variable [bn:Inhabited Ban] {base B0:Nat} {w:World} {P q g m p n s r xq width j cnt:Nat} {lv wv sgv rlv lvd iv:Value} {size:Int} {ss:List SegL} {ts:List LRec} {d:Qr} {x:Qn} {L:LedS} {l:List Qc}
theorem put_both (h:P16 base w P q g m lv p n s wv sgv rlv r xq lvd width size ss ts d x L j cnt) (hj:j+1<=450) (hb:base<=w.heap.size) (hT:ban.top<=w.heap.size) (a:Int) (b:Nat) (hits:Xr base w B0 iv l) (hl8:l.length<=8) (hbl:∀ x∈l,x.s.body.length<=40) :
  ∃ (c:Int) (nl:List Nat) (A:World->Prop),nl.length<=8/\Calls Tryz.prog 24 #[.pointer (some ⟨q,0,none⟩),.int .i64 a,.int .u64 b,iv] w (fun z w1=>∃ tv,z=.returned (.tuple #[tv,.int .i64 c])/\OwnN w1 w.heap.size tv nl/\A w1)/\(∀ w1,A w1->Keep (Qi q g m lv p n s wv sgv rlv) w w1) /\
   ∀ w1 w1' iv2,A w1->Keep No w1 w1'->Gs base w1' iv2 l->Calls Tryz.prog 72 #[.pointer (some ⟨r,0,none⟩),.int .i64 a,.int .u64 b,iv2] w1' (fun z w2=>∃ tv,z=.returned (.tuple #[tv,.int .i64 c])/\OwnN w2 w1'.heap.size tv nl/\Keep (·=xq) w1' w2/\Jh base w P width size (j+1) (Uj P q g m lv p n s wv sgv rlv r xq lvd) w2):=by
 have hts:=h.doc.many
 have hmany:=h.many
 by_cases ha:a<0\/16<=a
 ·refine ⟨1,[],fun w1=>w1=w,by decide,(gPut_out w q a b iv ha).mono (fun z w1 ⟨h1,h2⟩=>⟨_,h1,OwnN.nil _ _,h2⟩),fun w1 e=>by rw [e];exact Keep.refl _ _,fun w1 w1' iv2 e1 kk hd=>?_⟩
  subst e1
  refine (r16Put_bad _ a b iv2 (by omega)).mono ?_
  rintro z w2 ⟨h1,rfl⟩
  exact ⟨_,h1,OwnN.nil _ _,Keep.refl _ _,h.still hj kk⟩
 ·obtain ⟨a',rfl⟩:∃ a':Nat,a=(a':Int):=⟨a.toNat,by omega⟩
  have ha:a'<16:=by omega
  cases hr:Yv b l
  ·refine ⟨1,[],fun w1=>Keep No w w1,by decide,(gPut_wrong q a' b ha hits (by omega) (fun x hx=>by have:=hbl x hx;omega) hr).mono (fun z w1 hz=>?_),fun w1 e=>e.no,fun w1 w1' iv2 e1 kk hd=>?_⟩
   ·exact ⟨_,hz.1,OwnN.nil _ _,hz.2⟩
   ·by_cases hb61:2305843009213693952<=b
    ·refine (r16Put_bad _ (a':Int) b iv2 (by omega)).mono ?_
     rintro z w2 ⟨h1,rfl⟩
     exact ⟨_,h1,OwnN.nil _ _,Keep.refl _ _,h.still hj (e1.then kk)⟩
    ·refine (r16Put_wrong ha (by omega) hd (by omega) (fun x hx=>by have:=hbl x hx;omega) hr).mono ?_
     rintro z w2 ⟨h1,k⟩
     exact ⟨_,h1,OwnN.nil _ _,k.no,h.still hj ((e1.then kk).then k)⟩
  ·cases hpr:L.putR a' b l with
   | none =>
    have hg:=gPut_g (c:=0) (ss':=ss) (ts':=ts) (d':=d) (L':=L) h.led h.doc.lg7.good (by omega) (h.doc.lg7.small (by omega)) ha hits hr hl8 hbl (by omega) hb hT (fun r e=>by rw [hpr] at e;cases e)
    rw [hpr] at hg
    refine ⟨0,(if putC 0 none=0 then (pick ((L.win a').skip b) l).map (fun y:Qc=>y.n) else []),fun w1=>Keep No w w1,by (have:=(Xi ((L.win a').skip b) l).length_le;split <;> simp;omega),hg.mono (fun z w1 ⟨tv,h1,h2,h3⟩=>⟨tv,h1,h2,h3⟩),fun w1 e=>e.no,fun w1 w1' iv2 e1 kk hd=>?_⟩
    have hk:=e1.then kk
    have hr16:=r16Put_spec (c:=0) (x':=x) (h.doc.no hk) ha hd hr hl8 hbl (by omega) (Nat.le_trans hb hk.size) (Nat.le_trans hT hk.size) (fun r e=>by rw [hpr] at e;cases e)
    rw [hpr] at hr16
    refine hr16.mono ?_
    rintro z w2 ⟨tv,h1,h2,h3⟩
    exact ⟨tv,h1,h2,Keep.no h3,h.still hj (hk.then h3)⟩
   | some rc =>
    obtain ⟨hl600,hm8,hin,hsf⟩:=putR_bounds hpr hr ha hl8 hbl
    obtain ⟨c,ss',ts',d',x',L',hwr,hap,h7,hcase⟩:=both_append h.doc.lg7 (by omega) size L rc (by omega)
    have hg:=gPut_g h.led h.doc.lg7.good (by omega) (h.doc.lg7.small (by omega)) ha hits hr hl8 hbl (by omega) hb hT (fun r e=>by rw [hpr] at e;cases e;exact hwr)
    rw [hpr] at hg
    refine ⟨c,(if putC c (some rc)=0 then (pick ((L.win a').skip b) l).map (fun y:Qc=>y.n) else []),Ga base w q g m p width size ss' ts' d' L' (Qi q g m lv p n s wv sgv rlv),by (have:=(Xi ((L.win a').skip b) l).length_le;split <;> simp;omega),hg.mono (fun z w1 ⟨tv,h1,h2,h3⟩=>⟨tv,h1,h2,h3⟩),fun w1 hp=>?_,fun w1 w1' iv2 hp kk hd=>?_⟩
    ·obtain ⟨_,_,_,_,_,_,_,k,_⟩:=hp
     exact k
    ·have hp':=hp
     obtain ⟨_,_,_,_,_,_,_,k,_⟩:=hp'
     have hsz:=k.size
     have hr16:=r16Put_spec ((h.doc1 k).no kk) ha hd hr hl8 hbl (by omega) (Nat.le_trans hb (Nat.le_trans k.size kk.size)) (Nat.le_trans hT (Nat.le_trans k.size kk.size)) (fun r e=>by rw [hpr] at e;cases e;exact hap)
     rw [hpr] at hr16
     refine hr16.mono ?_
     rintro z w2 ⟨tv,h1,h2,hrw⟩
     have hrw:Ho base w1' r xq lvd x' width size (cnt:Int) w2:=hrw
     have hrw':=hrw
     obtain ⟨_,_,k2,_⟩:=hrw'
     refine ⟨tv,h1,h2,k2,?_⟩
     have hsl2:(L.step rc).safe<=(L.step rc).recs.length:=by
      have h5:=h.sle
      have h6:L.recs.length<=(L.step rc).recs.length:=by cases rc <;> simp [LedS.step]
      rw [hsf]
      omega
     have hlit:Hm width (ts++[rc]):=h.lit.push _ (by
      have hq1:=h.led.tl.recs
      have hq2:((told width ts).step rc).recs.length=(L.step rc).recs.length:=by
       have hq3:=congrArg List.length hq1.symm
       clear hm8 hq1 hg hpr hr16 hwr hap hl600 hin hsf h1 h2 hrw hsl2 hp hcase
       cases rc
       ·exact hq3
       ·exact hq3
       ·simp only [LedS.step,List.length_append,List.length_map];omega
      rw [hq2,<- hq1]
      exact hm8) (by
      have hq1:=h.led.tl.inc
      have hq2:((told width ts).step rc).inc=(L.step rc).inc:=by
       clear hm8 hg hpr hr16 hwr hap hl600 hin hsf h1 h2 hrw hsl2 hp hcase
       cases rc
       ·rfl
       ·exact hq1.symm
       ·exact hq1.symm
      rw [hq2,<- hq1,hin]
      exact Nat.le_add_right _ _)
     rcases hcase with ⟨_,rfl,rfl⟩ | ⟨_,rfl,rfl⟩
     ·exact h.both hp kk hrw h7 hj (h.safe.push _ h.sle) hsl2 hlit (fun r hr=>by
       rcases List.mem_append.1 hr with hr | hr
       ·exact h.doc.few r hr
       ·rw [List.mem_singleton.1 hr];omega)
     ·exact h.both hp kk hrw h7 hj h.safe h.sle h.lit h.doc.few
end
section
variable [bn:Inhabited Ban] {base:Nat} {w w' W:World} {P q g m p n s r xq width j cnt:Nat} {lv wv sgv rlv lvd:Value} {size:Int} {ss:List SegL} {ts:List LRec} {d:Qr} {x:Qn} {L:LedS} {B:Nat->Prop}
theorem Jh.from' (h:Jh base W P width size j B w') (k:Keep No w W):Jh base w P width size j B w':=by
 obtain ⟨B',h1,h2,h3⟩:=h
 exact ⟨B',h1,k.no.trans h2 (fun _ _ e=>e),fun b hb=>(h3 b hb).imp id (fun e=>Nat.le_trans k.size e)⟩
theorem P16.lt (h:P16 base w P q g m lv p n s wv sgv rlv r xq lvd width size ss ts d x L j cnt):∀ b,Qi q g m lv p n s wv sgv rlv b\/Vx r xq lvd b->b<w.heap.size:=fun b hb=>by
 rcases hb with hb | hb
 ·exact h.led.lt b hb
 ·exact (h.doc.mem.footD b hb).2.1
theorem do16_raise (h:P16 base w P q g m lv p n s wv sgv rlv r xq lvd width size ss ts d x L j cnt) (hj:j+1<=450) (hb:base<=w.heap.size) (hT:ban.top<=w.heap.size) (kd ba ep:Nat) (ag kp tn:Int) (on:Bool) (io:Option Addr) (il ic:Nat) (hk:kd % 7=3) :
  Calls Tryz.prog 26 #[.pointer (some ⟨P,0,none⟩),.agg #[.int .u8 kd,.int .i64 ag,.int .u64 ba,.int .u64 ep,.slice io il ic,.bool on,.int .i64 kp,.int .i64 tn]] w fun e w'=>e=.returned (.bool true)/\Jh base w P width size (j+1) (Uj P q g m lv p n s wv sgv rlv r xq lvd) w':=by
 obtain ⟨W,hW⟩:∃ W,W=w.alloc (.cells #[.int .u8 kd,.int .i64 ag,.int .u64 ba,.int .u64 ep,.slice io il ic,.bool on,.int .i64 kp,.int .i64 tn] 30):=⟨_,rfl⟩
 have kW:Keep No w W:=by rw [hW];exact (Keep.refl _ _).alloc _
 have hA:W.heap[w.heap.size]?=some (.cells #[.int .u8 kd,.int .i64 ag,.int .u64 ba,.int .u64 ep,.slice io il ic,.bool on,.int .i64 kp,.int .i64 tn] 30 (0,0)):=by rw [hW];exact Qy _ _
 have hP:=(h.no kW).blk
 have hlt:=h.lt
 obtain ⟨c,A,hg,hkA,hr⟩:=raise_both ((h.no kW).no ((Keep.refl No W).drew)) hj (Nat.le_trans hb kW.size) (Nat.le_trans hT kW.size) ag ep
 obtain ⟨hP1,hP2⟩:=h.apartP
 have hk7:Int.tmod (kd:Int) 7=3:=by have:Int.tmod (kd:Int) 7=((kd % 7:Nat):Int):=rfl;rw [this,hk];rfl
 have hk7':(kd:Int) % 7=3:=by omega
 have c0:=Qq hA 0
 have c1:=Qq hA 1
 have c3:=Qq hA 3
 have p0:=Qq hP 0
 have p1:=Qq hP 1
 simp at c0 c1 c3 p0 p1
 have hnP:∀ b,Qi q g m lv p n s wv sgv rlv b\/Vx r xq lvd b->¬b=P:=fun b hb e=>by subst e;exact hb.elim hP1 hP2
 have hnA:∀ b,Qi q g m lv p n s wv sgv rlv b\/Vx r xq lvd b->¬b=w.heap.size:=fun b hb e=>by have:=hlt b hb;omega
 have HH:=Lib.hid (A3 kW hkA hr)
 have HN:=Lib.hid (A2 hnP hnA)
 clear kW hA hP hlt hkA hr hP1 hP2 hk hb hT h hj hnP hnA
 go_enter Tryz.func26,Tryz.ntmps26
 go_upto_region 3 with fail
 rw [<- hW]
 clear hW
 have kd0:Keep No W W.drew:=(Keep.refl _ _).drew
 have kd1:Keep (fun b=>Qi q g m lv p n s wv sgv rlv b\/Vx r xq lvd b) W W.drew:=kd0.no
 refine Ql (fun w'=>Keep (fun b=>Qi q g m lv p n s wv sgv rlv b\/Vx r xq lvd b) W w') [0,1,2,3,4,5,6,7,9,10,11,12,13,14,15,16] [8,17] [18,19] (by kernel_rfl) (by kernel_rfl) (fun _ _ _ _ _ h=>h) kd1 ?_
 iterate 16 (refine Qk (v:=?_) rfl rfl rfl ?_ ?_;rotate_left;focus (
  intro w' hS
  have f0:=hS.cell p0 (fun e=>HN.out.1 _ e rfl)
  have f1:=hS.cell p1 (fun e=>HN.out.1 _ e rfl)
  have f2:=hS.cell c1 (fun e=>HN.out.2 _ e rfl)
  have f3:=hS.cell c3 (fun e=>HN.out.2 _ e rfl)
  go_simp
  try with_reducible rfl))
 refine Qj ?_
 refine Qx rfl rfl (fun K hK=>?_)
 go_simp
 refine hg.mono ?_
 rintro e w1 ⟨rfl,hA1⟩
 have kF1:=kd1.trans ((HH.out.2.1 w1 hA1).mono (fun b _ hb=>(Or.inl hb:Qi q g m lv p n s wv sgv rlv b\/Vx r xq lvd b))) (fun _ _ e=>e)
 refine hK _ _ kF1 ?_
 clear hK K
 refine Qx rfl rfl (fun K hK=>?_)
 go_simp
 refine (HH.out.2.2 w1 hA1).mono ?_
 rintro e w2 ⟨rfl,k2,hd⟩
 have kF2:=kF1.trans (k2.mono (fun b _ hb=>(Or.inr (.inr (.inl hb)):Qi q g m lv p n s wv sgv rlv b\/Vx r xq lvd b))) (fun _ _ e=>e)
 refine hK _ _ kF2 ?_
 clear hK K
 have HX:=Lib.hid ((hd.from' kd0).from' HH.out.1)
 clear hd kF1 kF2 k2 kd1 kd0 hA1 hg p0 p1 c0 c1 c3
 refine Qh (Qu rfl (Qu rfl (Qm ?_)))
 go_wp2_with fail
 go_ret
 exact ⟨rfl,HX.out⟩
theorem do16_sync (h:P16 base w P q g m lv p n s wv sgv rlv r xq lvd width size ss ts d x L j cnt) (hj:j+1<=450) (hb:base<=w.heap.size) (hT:ban.top<=w.heap.size) (kd ba ep:Nat) (ag kp tn:Int) (on:Bool) (io:Option Addr) (il ic:Nat) (hk:kd % 7=4) :
  Calls Tryz.prog 26 #[.pointer (some ⟨P,0,none⟩),.agg #[.int .u8 kd,.int .i64 ag,.int .u64 ba,.int .u64 ep,.slice io il ic,.bool on,.int .i64 kp,.int .i64 tn]] w fun e w'=>e=.returned (.bool true)/\Jh base w P width size (j+1) (Uj P q g m lv p n s wv sgv rlv r xq lvd) w':=by
 obtain ⟨W,hW⟩:∃ W,W=w.alloc (.cells #[.int .u8 kd,.int .i64 ag,.int .u64 ba,.int .u64 ep,.slice io il ic,.bool on,.int .i64 kp,.int .i64 tn] 30):=⟨_,rfl⟩
 have kW:Keep No w W:=by rw [hW];exact (Keep.refl _ _).alloc _
 have hA:W.heap[w.heap.size]?=some (.cells #[.int .u8 kd,.int .i64 ag,.int .u64 ba,.int .u64 ep,.slice io il ic,.bool on,.int .i64 kp,.int .i64 tn] 30 (0,0)):=by rw [hW];exact Qy _ _
 have h2:=h.no kW
 have hP:=h2.blk
 obtain ⟨hP1,hP2⟩:=h.apartP
 have hg7:=h2.doc.lg7.good
 have hlen:=hg7.len
 have hsum:=hg7.sum
 have hmany:=h2.doc.many
 have hrec:(Qw ss).length=ts.length:=by rw [h2.doc.lg7.recs];simp [Zk]
 have hds:=r16Sync_spec h2.doc.mem (Nat.le_trans hb kW.size) (Nat.le_trans hT kW.size) (by omega) (by omega) hg7.map (hg7.segsOk (by omega)) (by omega)
 rw [hrec] at hds
 have hk7:Int.tmod (kd:Int) 7=4:=by have:Int.tmod (kd:Int) 7=((kd % 7:Nat):Int):=rfl;rw [this,hk];rfl
 have hk7':(kd:Int) % 7=4:=by omega
 have c0:=Qq hA 0
 have p0:=Qq hP 0
 have p1:=Qq hP 1
 simp at c0 p0 p1
 have HH:=Lib.hid (A6 kW h2 hP1 hP2 hb hj)
 clear kW hA hP hP1 hP2 hk hb hT h h2 hj hg7 hlen hsum hmany hrec
 go_enter Tryz.func26,Tryz.ntmps26
 go_upto_region 5 with fail
 rw [<- hW]
 clear hW
 go_upto_region 6 with (go_at_call 70;refine hds.mono ?_;rintro e w1 ⟨⟨v1,rfl⟩,hR1,k1⟩;have p0:=k1.cell p0 (fun e=>HH.out.2.2.2.1 (e.imp id .inl)))
 have hFD:∀ b,(b=r\/b=xq)->Vx r xq lvd b:=fun b e=>e.imp id .inl
 have hL1:=HH.out.2.1.led.keep (fun b e=>HH.out.2.1.doc.mem.footD b (hFD b e)) (fun b e=>HH.out.2.1.doc.mem.footDR b (hFD b e)) k1 (fun b hb e=>Rc HH.out.2.1.led HH.out.2.1.doc.mem b (hFD b e) hb)
 have hgs:=gSync_g hL1 (Nat.le_trans HH.out.2.2.2.2.1 (Nat.le_trans HH.out.1.size k1.size))
 have HB:=Lib.hid (A3 hR1 k1 hL1)
 clear hR1 k1 hL1 hFD hds
 go_wp2_with (go_at_call 23;refine hgs.mono ?_;rintro e w2 ⟨rfl,lv2,n2,s2,wv2,sgv2,rlv2,hL2,k2,ho2⟩)
 go_ret
 obtain ⟨hR1,k1,hL1⟩:=HB.out
 have hA1:=Rc hL1 hR1
 have hR2:=hR1.keepD hL1.foot k2 hA1
 have h2:=HH.out.2.1
 have hb1:=k1.heap h2.blk (fun e=>HH.out.2.2.2.1 (e.imp id .inl))
 have hb2:=k2.heap hb1 HH.out.2.2.1
 have hrb:(Zk ts).length=ts.length:=by simp [Zk]
 have h7:=h2.doc.lg7.sync
 rw [hrb] at h7
 refine ⟨rfl,Jh.from' ⟨_,⟨q,g,m,lv2,p,n2,s2,wv2,sgv2,rlv2,r,xq,lvd,ss,ts,d.sync,x.sync,L.sync,ts.length,⟨hb2,hL2,⟨hR2,h7.mono (Nat.le_succ _),HH.out.2.2.2.2.2,hL2.tl,hL2.ok,h2.doc.few⟩,Gr.sync h2.doc.tls,Nat.le_refl _,h2.lit,h2.pb⟩,rfl⟩,(k1.mono (fun b _ e=>.inr (.inr (e.imp id .inl)))).trans (k2.mono (fun b _ e=>.inr (.inl e))) (fun _ _ e=>e),fun b hb=>?_⟩ HH.out.1⟩
 rcases hb with hb | hb | hb
 ·exact .inl (.inl hb)
 ·exact (ho2 b hb).imp (fun e=>.inr (.inl e)) (fun e=>Nat.le_trans k1.size e)
 ·exact .inl (.inr (.inr hb))
end
section
variable [bn:Inhabited Ban] {base:Nat} {w0 w w' W:World} {P q g m p n s r xq width j cnt:Nat} {lv wv sgv rlv lvd:Value} {size:Int} {ss:List SegL} {ts:List LRec} {d:Qr} {x:Qn} {L:LedS}
theorem do16_put (h:P16 base w P q g m lv p n s wv sgv rlv r xq lvd width size ss ts d x L j cnt) (hj:j+1<=450) (hb:base<=w0.heap.size) (hT:ban.top<=w0.heap.size) (k0:Keep No w0 w) (hB:∀ b,Uj P q g m lv p n s wv sgv rlv r xq lvd b->w0.heap.size<=b) (kd ba ep:Nat) (ag kp tn:Int) (on:Bool) (io:Option Addr) (il ic:Nat) (items:List Qc) (hits:Rw base w0 (.slice io il ic) items) (hk:kd % 7<=2) :
  Calls Tryz.prog 26 #[.pointer (some ⟨P,0,none⟩),.agg #[.int .u8 kd,.int .i64 ag,.int .u64 ba,.int .u64 ep,.slice io il ic,.bool on,.int .i64 kp,.int .i64 tn]] w fun e w'=>e=.returned (.bool true)/\Jh base w P width size (j+1) (Uj P q g m lv p n s wv sgv rlv r xq lvd) w':=by
 obtain ⟨W,hW⟩:∃ W,W=w.alloc (.cells #[.int .u8 kd,.int .i64 ag,.int .u64 ba,.int .u64 ep,.slice io il ic,.bool on,.int .i64 kp,.int .i64 tn] 30):=⟨_,rfl⟩
 have kW:Keep No w W:=by rw [hW];exact (Keep.refl _ _).alloc _
 have hA:W.heap[w.heap.size]?=some (.cells #[.int .u8 kd,.int .i64 ag,.int .u64 ba,.int .u64 ep,.slice io il ic,.bool on,.int .i64 kp,.int .i64 tn] 30 (0,0)):=by rw [hW];exact Qy _ _
 have hP:=(h.no kW).blk
 have hlt:=h.lt
 obtain ⟨hP1,hP2⟩:=h.apartP
 obtain ⟨k7,hk7e⟩:∃ k7:Nat,k7=kd % 7:=⟨_,rfl⟩
 have hk7:Int.tmod (kd:Int) 7=(k7:Int):=by rw [hk7e];rfl
 have hk7':(kd:Int) % 7=(k7:Int):=by omega
 have q3:((k7:Int)==3)=false:=by simp;omega
 have q4:((k7:Int)==4)=false:=by simp;omega
 have q5:((k7:Int)==5)=false:=by simp;omega
 have q6:((k7:Int)==6)=false:=by simp;omega
 have c0:=Qq hA 0
 have c1:=Qq hA 1
 have c2:=Qq hA 2
 have c4:=Qq hA 4
 have p0:=Qq hP 0
 have p1:=Qq hP 1
 simp at c0 c1 c2 c4 p0 p1
 have hnP:∀ b,Qi q g m lv p n s wv sgv rlv b\/Vx r xq lvd b->¬b=P:=fun b hb e=>by subst e;exact hb.elim hP1 hP2
 have hnA:∀ b,Qi q g m lv p n s wv sgv rlv b\/Vx r xq lvd b->¬b=w.heap.size:=fun b hb e=>by have:=hlt b hb;omega
 have HN:=Lib.hid (A2 hnP hnA)
 have HH:=Lib.hid (A9 (h.no kW) (k0.then kW) hits hb hT hj kW hB hlt)
 clear kW hA hP hlt hP1 hP2 hk hb hT h hj hnP hnA hits k0 hk7e hB
 go_enter Tryz.func26,Tryz.ntmps26
 go_upto_region 13 with fail
 rw [<- hW]
 clear hW
 go_cut [5,6] (fun v5 v6 wx=>∃ (c:Int) (nl:List Nat) (w1:World),v6=.int .i64 c/\nl.length<=8/\OwnN wx w1.heap.size v5 nl/\Keep No W w1/\Keep (fun b=>Qi q g m lv p n s wv sgv rlv b\/Vx r xq lvd b) W wx/\∀ w1' iv2,Keep No wx w1'->Gs base w1' iv2 (fewS items)->Calls Tryz.prog 72 #[.pointer (some ⟨r,0,none⟩),.int .i64 ag,.int .u64 ba,iv2] w1' (fun z w2=>∃ tv,z=.returned (.tuple #[tv,.int .i64 c])/\OwnN w2 w1'.heap.size tv nl/\Keep (·=xq) w1' w2/\Jh base w1 P width size (j+1) (Uj P q g m lv p n s wv sgv rlv r xq lvd) w2))
 case first =>
  have kd0:Keep No W W.drew:=(Keep.refl _ _).drew
  have kd1:Keep (fun b=>Qi q g m lv p n s wv sgv rlv b\/Vx r xq lvd b) W W.drew:=kd0.no
  refine Vr (fun w'=>Keep (fun b=>Qi q g m lv p n s wv sgv rlv b\/Vx r xq lvd b) W w') [([0,1,2,3,4,5,6,7,8,9],[10,11,12]),([13,14],[15,16])] (by kernel_rfl) (by kernel_rfl) (fun _ _ _ _ _ h=>h) kd1 ?_
  iterate 10 (refine Qk (v:=?_) rfl rfl rfl ?_ ?_;rotate_left;focus (
   intro w' hS
   have f0:=hS.cell p0 (fun e=>HN.out.1 _ e rfl)
   have f1:=hS.cell p1 (fun e=>HN.out.1 _ e rfl)
   have f2:=hS.cell c1 (fun e=>HN.out.2 _ e rfl)
   have f3:=hS.cell c2 (fun e=>HN.out.2 _ e rfl)
   have f4:=hS.cell c4 (fun e=>HN.out.2 _ e rfl)
   go_simp
   try with_reducible rfl))
  refine Qj ?_
  refine Qx rfl rfl (fun K hK=>?_)
  go_simp
  refine (few16_spec (HH.out.2.2.1.no (HH.out.2.1.then kd0)) (Nat.le_trans HH.out.2.2.2.1 (HH.out.2.1.then kd0).size) (Nat.le_trans HH.out.2.2.2.2.1 (HH.out.2.1.then kd0).size)).mono ?_
  rintro e w1 ⟨iv1,rfl,hi1,k1⟩
  have k01:=kd0.then k1
  refine hK _ _ k01.no ?_
  clear hK K
  obtain ⟨c,nl,A,hn8,hg,hkA,hr⟩:=put_both (HH.out.1.no k01) HH.out.2.2.2.2.2.1 (Nat.le_trans HH.out.2.2.2.1 (HH.out.2.1.then k01).size) (Nat.le_trans HH.out.2.2.2.2.1 (HH.out.2.1.then k01).size) ag ba hi1 (fewS_len items) (fewS_body items)
  refine Qx rfl rfl (fun K hK=>?_)
  go_simp
  refine hg.mono ?_
  rintro e w2 ⟨tv1,rfl,hn1,hA2⟩
  have kF2:Keep (fun b=>Qi q g m lv p n s wv sgv rlv b\/Vx r xq lvd b) W w2:=k01.no.trans ((hkA w2 hA2).mono (fun b _ hb=>(Or.inl hb:Qi q g m lv p n s wv sgv rlv b\/Vx r xq lvd b))) (fun _ _ e=>e)
  refine hK _ _ kF2 ?_
  clear hK K
  refine Qx rfl rfl (fun K hK=>?_)
  go_simp
  refine hK _ _ kF2 ?_
  clear hK K
  refine Qh ?_
  iterate 2 (refine Qk (v:=?_) rfl rfl rfl ?_ ?_;rotate_left;focus (
   intro w' hS
   go_simp
   try with_reducible rfl))
  refine Qj ?_
  refine Qx rfl rfl (fun K hK=>?_)
  go_simp
  refine hK _ _ kF2 ?_
  clear hK K
  refine Qx rfl rfl (fun K hK=>?_)
  go_simp
  refine hK _ _ kF2 ?_
  clear hK K
  refine Qh ?_
  have HX:=Lib.hid (A4 hn1 k01 kF2 (fun w1' iv2 kk hd=>hr w2 w1' iv2 hA2 kk hd))
  clear hn1 k01 kF2 hr hg hkA hA2 kd0 kd1 hi1 k1
  show wpList _ _ _ [] _ _
  go_wp2_with fail
  go_meet
  exact ⟨c,nl,w1,rfl,hn8,HX.out⟩
 case rest =>
  obtain ⟨c,nl,w1,rfl,hn8,hn1,k01,kF2,hr⟩:=hcut
  obtain ⟨o1,c1',rfl,_,_⟩:=hn1.form
  have p0:=kF2.cell p0 (fun e=>HN.out.1 _ e rfl)
  have p1:=kF2.cell p1 (fun e=>HN.out.1 _ e rfl)
  have c1:=kF2.cell c1 (fun e=>HN.out.2 _ e rfl)
  have c2:=kF2.cell c2 (fun e=>HN.out.2 _ e rfl)
  have c4:=kF2.cell c4 (fun e=>HN.out.2 _ e rfl)
  have k02:Keep No w0 wc:=HH.out.2.1.absorb kF2 (fun b hb=>HH.out.2.2.2.2.2.2.2.1 b (.inr hb))
  have HB:=Lib.hid (A4 hn1 k01 k02 hr)
  clear hn1 k01 kF2 k02 hr
  go_upto_region 14 with fail
  have kd0:Keep No wc wc.drew:=(Keep.refl _ _).drew
  have kd1:Keep (·=xq) wc wc.drew:=kd0.no
  have hxP:∀ b,b=xq->¬b=P:=fun b hb=>HN.out.1 b (.inr (.inr (.inl hb)))
  have hxA:∀ b,b=xq->¬b=w.heap.size:=fun b hb=>HN.out.2 b (.inr (.inr (.inl hb)))
  refine Vr (fun w'=>Keep (·=xq) wc w') [([0,1,2,3,4,5,6,7,8,9],[10,11,12,13]),([14,15],[16,17])] (by kernel_rfl) (by kernel_rfl) (fun _ _ _ _ _ h=>h) kd1 ?_
  iterate 10 (refine Qk (v:=?_) rfl rfl rfl ?_ ?_;rotate_left;focus (
   intro w' hS
   have f0:=hS.cell p0 (fun e=>hxP _ e rfl)
   have f1:=hS.cell p1 (fun e=>hxP _ e rfl)
   have f2:=hS.cell c1 (fun e=>hxA _ e rfl)
   have f3:=hS.cell c2 (fun e=>hxA _ e rfl)
   have f4:=hS.cell c4 (fun e=>hxA _ e rfl)
   go_simp
   try with_reducible rfl))
  refine Qj ?_
  refine Qx rfl rfl (fun K hK=>?_)
  go_simp
  refine (few16_spec (HH.out.2.2.1.no (HB.out.2.2.1.then kd0)) (Nat.le_trans HH.out.2.2.2.1 (HB.out.2.2.1.then kd0).size) (Nat.le_trans HH.out.2.2.2.2.1 (HB.out.2.2.1.then kd0).size)).mono ?_
  rintro e w3 ⟨iv3,rfl,hi3,k3⟩
  have k23:=kd0.then k3
  refine hK _ _ k23.no ?_
  clear hK K
  refine Qx rfl rfl (fun K hK=>?_)
  go_simp
  refine (own16_spec hi3 (by have:=fewS_len items;omega) (Nat.le_trans HH.out.2.2.2.1 (HB.out.2.2.1.then k23).size)).mono ?_
  rintro e w4 ⟨iv4,rfl,hd4,k4⟩
  have k24:=k23.then k4
  refine hK _ _ k24.no ?_
  clear hK K
  refine Qx rfl rfl (fun K hK=>?_)
  go_simp
  refine (HB.out.2.2.2 w4 iv4 k24 hd4).mono ?_
  rintro e w5 ⟨tv5,rfl,hn5,k5,hdn⟩
  have k25:Keep (·=xq) wc w5:=k24.no.trans k5 (fun _ _ e=>e)
  refine hK _ _ k25 ?_
  clear hK K
  refine Qx rfl rfl (fun K hK=>?_)
  go_simp
  refine hK _ _ k25 ?_
  clear hK K
  refine Qh ?_
  iterate 2 (refine Qk (v:=?_) rfl rfl rfl ?_ ?_;rotate_left;focus (
   intro w' hS
   go_simp
   try with_reducible rfl))
  refine Qj ?_
  refine Qx rfl rfl (fun K hK=>?_)
  go_simp
  refine hK _ _ k25 ?_
  clear hK K
  refine Qx rfl rfl (fun K hK=>?_)
  go_simp
  refine hK _ _ k25 ?_
  clear hK K
  refine Qh ?_
  obtain ⟨o5,c5',rfl,_,_⟩:=hn5.form
  have hn1:=HB.out.1.keep k25 (fun b hb e=>by
   have h1:=(HB.out.1.kind b hb).1
   have h2:=HH.out.2.2.2.2.2.2.2.2 xq (.inr (.inr (.inl rfl)))
   have h3:=HH.out.2.2.2.2.2.2.1.size
   have h4:=HB.out.2.1.size
   have e:b=xq:=e
   omega)
  have heq:=eq64_spec hn1.nums hn5.nums (by omega) (by omega)
  rw [decide_eq_true rfl] at heq
  have HX:=Lib.hid (A3 hdn k25 HB.out.2.1)
  clear hdn k25 k5 k24 k23 k4 k3 kd0 kd1 hi3 hd4 hn5 hn1 p0 p1 c1 c2 c4 hxP hxA
  show wpList _ _ _ [] _ _
  go_upto_region 15 with fail
  go_wp2_with (go_at_call 49;refine heq.mono ?_;rintro e w6 ⟨rfl,k6⟩)
  go_ret
  obtain ⟨⟨B',⟨q2,g2,m2,lv2,p2,n2,s2,wv2,sgv2,rlv2,r2,xq2,lvd2,ss2,ts2,d2,x2,L2,cnt2,hp2,hB2⟩,kB,hnB⟩,_,k01⟩:=HX.out
  have hdn6:Jh base w1 P width size (j+1) (Uj P q g m lv p n s wv sgv rlv r xq lvd) w6:=⟨B',⟨q2,g2,m2,lv2,p2,n2,s2,wv2,sgv2,rlv2,r2,xq2,lvd2,ss2,ts2,d2,x2,L2,cnt2,hp2.no k6,hB2⟩,kB.then k6,hnB⟩
  exact ⟨rfl,Jh.from' (Jh.from' hdn6 k01) HH.out.2.2.2.2.2.2.1⟩
end
end Go.Proofs.YtfdmbomlkpkegaaGreat
