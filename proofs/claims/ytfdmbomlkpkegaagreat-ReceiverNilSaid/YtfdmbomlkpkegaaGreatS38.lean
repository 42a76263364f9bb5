/- Lemmas for ReceiverNil. -/
import Derived.Test.YtfdmbomlkpkegaaGreatS37
import Derived.Test.YtfdmbomlkpkegaaGreatS28
import Derived.Test.YtfdmbomlkpkegaaGreatS34
import Derived.Test.YtfdmbomlkpkegaaGreatS26
import Derived.Test.YtfdmbomlkpkegaaGreatS25
import Derived.Test.YtfdmbomlkpkegaaGreatS31
import Derived.Test.YtfdmbomlkpkegaaGreatS33
import Derived.Test.YtfdmbomlkpkegaaGreatS19
import Derived.Test.YtfdmbomlkpkegaaGreatS32
set_option maxRecDepth 100000
set_option maxHeartbeats 8000000
set_option linter.all false
namespace Go.Proofs.YtfdmbomlkpkegaaGreat
open Go Go.RowKit Go.Dr Go.Shelf
def ROpen [bn:Inhabited Ban] (base:Nat) (w:World) (q:Nat) (lv:Value) (x':Qn) (width n:Nat) (size c:Int) (e:Ending) (w':World):Prop :=
 ∃ v,e=.returned (.tuple #[v,.int .i64 c])/\Keep (·=q) w w'/\((c=0/\∃ (p:Nat) (lv':Value),v=.pointer (some ⟨p,0,none⟩)/\w.heap.size<=p/\Jg base w' p q lv' x'.sync width size n/\∀ b,lv'.ownBlock=some b->lv.ownBlock=some b\/w.heap.size<=b)\/(c=5/\v=.pointer none))
theorem r16Open_spec [bn:Inhabited Ban] {base:Nat} {w:World} {q width j cnt:Nat} {lv:Value} {x x':Qn} {size c:Int} {ss ss':List SegL} {ts:List LRec} {d d':Qr} (h:Zs base w q lv x) (h7:Log7 j cnt (Zk ts) ss d x) (hj:j<=449)
  (hcan:∀ (k:Nat) r,ts[k]?=some r->(told width (ts.take k)).can r) (hrl:∀ r∈ts,r.bytes.length<=1000) (hinc:(told width ts).inc<=1000000) (hw:1<=width/\width<=1024) (hz:1<=size) (hb:base<=w.heap.size) (hT:ban.top<=w.heap.size)
  (hap:x.append (appS (logD size ss)).n (appB (logD size ss) (LRec.inc ((told width ts).inc+1)).bytes)=(x',c)) (hc:(c=0/\Log7 (j+1) cnt (Zk (ts++[.inc ((told width ts).inc+1)])) ss' d' x')\/c=5) :
  Calls Tryz.prog 50 #[.pointer (some ⟨q,0,none⟩),.int .u64 width,.int .i64 size] w (ROpen base w q lv x' width (ts.length+1) size c):=by
 have hw1:¬(width:Int)<1:=by omega
 have hw2:¬(1024:Int)<(width:Int):=by omega
 have hz1:¬size<1:=by omega
 obtain ⟨W1,hW1⟩:∃ W1,W1=w.alloc (.cells #[.pointer (some ⟨q,0,none⟩),.int .u64 width,.int .i64 size,.int .i64 0] 157):=⟨_,rfl⟩
 have hp1:W1.heap[w.heap.size]?=some (.cells #[.pointer (some ⟨q,0,none⟩),.int .u64 width,.int .i64 size,.int .i64 0] 157 (0,0)):=by rw [hW1];exact Qy _ _
 have k1:Keep No w W1:=by rw [hW1];exact (Keep.refl _ _).alloc _
 obtain ⟨L,hL⟩:∃ L,L=told width ts:=⟨_,rfl⟩
 have htl:Jc width ts (told width ts):=⟨rfl,rfl,rfl,hcan⟩
 have hR:RR base W1 w.heap.size q lv x width size 0 ss ts L j cnt d:=⟨⟨hp1,h.no k1,hb⟩,h7,by omega,by rw [hL];exact htl,by rw [hL];exact Gb hw hcan,hrl⟩
 rw [<- hL] at hinc hap hc
 clear hL htl
 obtain ⟨n,hn⟩:∃ n,n=L.inc:=⟨_,rfl⟩
 rw [<- hn] at hinc hap hc
 have hb1:=Nat.le_trans hb k1.size
 have hT1:=Nat.le_trans hT k1.size
 have htold:=hR.told hb1 hT1
 have htold:Calls Tryz.prog 74 #[.pointer (some ⟨w.heap.size,0,none⟩),.int .i64 (-1)] W1 fun e w'=>∃ cs,e=.returned (.tuple #[.agg cs,.int .i64 0])/\(cs.size=66/\cs.all (·.oneCell')=true/\(Tryz.prog.info? 168).map (·.size)=some cs.size/\cs[0]?=some (.int .u64 n))/\Keep No W1 w':=by
  refine htold.mono ?_
  rintro e w' ⟨cs,rfl,hs,k⟩
  exact ⟨_,rfl,⟨hs.size,hs.all,hs.info,by rw [hn];exact hs.inc⟩,k⟩
 have hnw:IntKind.u64.wrap ((n:Int)+1)=((n+1:Nat):Int):=by rw [wraps_u64 _ (by omega) (by omega)];rfl
 have hnb:=Qp (n:=n+1) (by omega)
 have hlen:(LRec.inc (n+1)).bytes.length<=1000:=by simp [LRec.bytes];omega
 have HA:=Lib.hid (A11 hR k1 hb1 hT1 hap hc hlen hinc hb hj hnb)
 clear hR hp1 k1 hb1 hT1 hap hc hlen hinc hb hj hz hw h h7 hT hnb hn hcan hrl
 go_enter Tryz.func50,Tryz.ntmps50
 go_upto_region 4 with fail
 rw [<- hW1]
 clear hW1
 go_upto_region 5 with (first
  | (go_at_call 74;refine htold.mono ?_;rintro e w2 ⟨cs,rfl,⟨hsz,hone,hinf,hc0⟩,k2⟩)
  | (refine wpList_store_row rfl 168 _ _ rfl w2.heap.size cs rfl rfl 168 Tryz.zeroCells168 (Qy _ _) hinf (by rw [hsz];rfl) hone ?_))
 have hz9:=setRow_heap _ w2.heap.size _ cs _ _ (Qy w2 (.cells Tryz.zeroCells168 168))
 have k3:Keep No w2 ((w2.alloc (.cells Tryz.zeroCells168 168)).setRow w2.heap.size cs):=((Keep.refl No w2).alloc _).trans (Zi _ w2.heap.size cs) (fun c hc e=>by have e:c=w2.heap.size:=e;omega)
 generalize (w2.alloc (.cells Tryz.zeroCells168 168)).setRow w2.heap.size cs=W3 at *
 have d0:=Qq hz9 0
 rw [hc0] at d0
 have k13:=k2.then k3
 clear hz9 hc0 hinf hone hsz htold k2 k3
 have hb3:=Nat.le_trans HA.out.2.2.1 k13.size
 have hT3:=Nat.le_trans HA.out.2.2.2.1 k13.size
 have hby:=Vc W3 1 (by decide)
 have kby:=(Keep.refl No W3).alloc (.cells #[.int .u8 1] 5)
 have hnum:Calls Tryz.prog 98 #[.int .u64 (n+1:Nat)] (W3.alloc (.cells #[.int .u8 1] 5)) _:=Jo 9 (n+1) (by have:=HA.out.2.2.2.2.2.2.2.1;omega) (by have:=HA.out.2.2.2.2.2.2.2.1;omega) (W3.alloc (.cells #[.int .u8 1] 5))
 have d0:=kby.cell d0 (fun e=>e)
 have HB:=Lib.hid (A5 hby kby hb3 hT3 k13)
 clear hby kby hb3 hT3 k13
 go_upto_region 7 with fail
 go_wp2_with fail
 refine hnum.mono ?_
 rintro e w4 ⟨v4,rfl,own4,k4⟩
 obtain ⟨o4,c4,e4⟩:=own4.form
 have hb4:=own4.bytes (base:=base) (fun _=>Nat.le_trans HB.out.2.2.2.1 HB.out.2.1.size)
 have hby4:=(HB.out.1.keep k4 (fun _ _ e=>e)).bytes (base:=base) (fun _=>HB.out.2.2.2.1)
 have hsl:=Ko hby4 hb4
 have hjn:=Xv hsl (by have:=HA.out.2.2.2.2.2.2.2.2.2.2;simp;omega)
 have he:[[UInt8.ofNat 1],numB (n+1)].flatten=(LRec.inc (n+1)).bytes:=by simp [LRec.bytes]
 rw [he] at hjn
 obtain ⟨l4,hl4⟩:∃ l4,l4=(numB (n+1)).length:=⟨_,rfl⟩
 rw [<- hl4] at e4
 subst e4
 have kA:=(Keep.refl No w4).alloc (.cells #[.slice (some ⟨W3.heap.size,0,none⟩) 1 1,.slice o4 l4 c4] 59)
 have k34:=(HB.out.2.1.then k4).then kA
 have HC:=Lib.hid k34
 clear hnum own4 k4 hb4 hby4 hsl he kA k34 hl4
 go_wp2_with fail
 refine hjn.mono ?_
 rintro e w5 ⟨v5,rfl,own5,k5⟩
 have k15:=(HB.out.2.2.2.2.then HC.out).then k5
 have hb5:=Nat.le_trans HA.out.2.2.1 k15.size
 have hT5:=Nat.le_trans HA.out.2.2.2.1 k15.size
 have hv5:=own5.bytes (base:=base) (fun _=>Nat.le_trans HB.out.2.2.2.1 HC.out.size)
 have hR5:=HA.out.1.no k15
 have happ:=hR5.app hb5 hT5 hv5 (by have:=HA.out.2.2.2.2.2.2.1;omega)
 rw [HA.out.2.2.2.2.1] at happ
 have happ:Calls Tryz.prog 96 #[.pointer (some ⟨q,0,none⟩),.int .i64 size,v5] w5 fun e w'=>∃ (nx:Int) (lv':Value),e=.returned (.tuple #[.int .u64 nx,.int .i64 c])/\Zs base w' q lv' x'/\Keep (·=q) w5 w'/\∀ b,lv'.ownBlock=some b->lv.ownBlock=some b\/w5.heap.size<=b:=happ.mono (fun e w' ⟨lv',h1,h2,h3,h4⟩=>⟨_,lv',h1,h2,h3,h4⟩)
 obtain ⟨o5,c5,e5⟩:=own5.form
 obtain ⟨l5,hl5⟩:∃ l5,l5=(LRec.inc (n+1)).bytes.length:=⟨_,rfl⟩
 rw [<- hl5] at e5
 subst e5
 have HD:=Lib.hid (A4 hR5 hb5 hT5 k15)
 clear hjn own5 k5 k15 hb5 hT5 hv5 hR5 d0 hl5
 go_upto_region 8 with (go_at_call 96;refine happ.mono ?_;rintro e w6 ⟨nx,lv6,rfl,hx6,k6,o6⟩)
 have hwr:=HD.out.1.wrote (Keep.refl _ _) hx6 k6 o6
 have HW:=Lib.hid hwr
 have HK:=Lib.hid k6
 clear hwr hx6 o6 happ k6
 rcases HA.out.2.2.2.2.2.1 with ⟨rfl,h7'⟩ | rfl
 ·obtain ⟨lv7,hR6,_,ho6⟩:=HW.out
  have hg:=h7'.good
  have hlen:=hg.len
  have hsum:=hg.sum
  have hj:=HA.out.2.2.2.2.2.2.2.2.2.1
  have hrec:(Qw ss').length=ts.length+1:=by rw [h7'.recs];simp [Zk]
  have hmany:=HA.out.1.many
  have hsy:=r16Sync_spec hR6 (Nat.le_trans HD.out.2.1 HK.out.size) (Nat.le_trans HD.out.2.2.1 HK.out.size) (by omega) (by omega) hg.map (hg.segsOk (by omega)) (by omega)
  rw [hrec] at hsy
  have HE:=Lib.hid (A2 ho6 hR6.pb)
  clear hR6 ho6 hg hlen hsum hj hrec hmany h7'
  go_wp2_with (go_at_call 70;refine hsy.mono ?_;rintro e w7 ⟨⟨v7,rfl⟩,hR7,k7⟩)
  go_ret2
  have k05:Keep (·=q) w w6:=(HA.out.2.1.then HD.out.2.2.2).no.trans HK.out (fun _ _ e=>e)
  have hs5:=(HA.out.2.1.then HD.out.2.2.2).size
  exact ⟨_,rfl,k05.trans k7 (fun b hb e=>by
   rcases e with e | e
   ·omega
   ·exact e),.inl ⟨rfl,w.heap.size,lv7,rfl,Nat.le_refl _,hR7,fun b hb=>(HE.out.1 b hb).imp id (fun e=>Nat.le_trans hs5 e)⟩⟩
 ·go_wp2_with fail
  go_ret2
  exact ⟨_,rfl,(HA.out.2.1.then HD.out.2.2.2).no.trans HK.out (fun _ _ e=>e),.inr ⟨rfl,rfl⟩⟩
def Vx (r q:Nat) (lv:Value):Nat->Prop:=fun b=>b=r\/b=q\/lv.ownBlock=some b
section
variable [bn:Inhabited Ban] {base:Nat} {w w':World} {r xq:Nat} {lvd:Value} {x:Qn} {width:Nat} {size safe:Int}
end
structure Gr (width:Nat) (ts:List LRec) (cnt:Nat) (L:LedS):Prop where
 le:cnt<=ts.length
 recs:L.recs.take L.safe=(told width (ts.take cnt)).recs
 ags:L.ag.map (·.safe)=(told width (ts.take cnt)).ag.map (·.now)
theorem Gr.sync {width:Nat} {ts:List LRec} {L:LedS} (h:Jc width ts L):Gr width ts ts.length L.sync:=by
 refine ⟨Nat.le_refl _,?_,?_⟩
 ·rw [List.take_length,<- h.recs]
  show L.recs.take L.recs.length=L.recs
  exact List.take_length
 ·rw [List.take_length]
  have h1:=congrArg (List.map Prod.snd) h.now
  unfold LedS.now at h1
  rw [List.map_map,List.map_map] at h1
  show (L.ag.map (fun g=>{ g with safe:=g.now })).map (·.safe)=_
  rw [List.map_map]
  exact h1
theorem modify_map {α β:Type} {l:List α} {a:Nat} {f:α->α} {g:α->β} (h:∀ x,g (f x)=g x):(l.modify a f).map g=l.map g:=by
 apply List.ext_getElem?
 intro i
 rw [List.getElem?_map,List.getElem?_map,List.getElem?_modify]
 cases l[i]? with
 | none=>rfl
 | some x =>
  by_cases hi:a=i
  ·simp [hi,h]
  ·simp [hi]
theorem Gr.push {width cnt:Nat} {ts:List LRec} {L:LedS} (h:Gr width ts cnt L) (r:LRec) (hs:L.safe<=L.recs.length):Gr width (ts++[r]) cnt (L.step r):=by
 have e:(ts++[r]).take cnt=ts.take cnt:=List.take_append_of_le_length h.le
 refine ⟨by have:=h.le;simp;omega,?_,?_⟩
 ·rw [e,<- h.recs]
  cases r with
  | inc n=>rfl
  | floor a n=>rfl
  | put a b l =>
   show (L.recs++_).take L.safe=_
   rw [List.take_append_of_le_length hs]
 ·rw [e,<- h.ags]
  cases r with
  | inc n=>rfl
  | floor a n=>exact modify_map (fun _=>rfl)
  | put a b l=>exact modify_map (fun _=>rfl)
theorem Ss {j cnt:Nat} {ts:List LRec} {ss:List SegL} {d:Qr} {x:Qn} (h:Log7 j cnt (Zk ts) ss d x) (hj:j<=999) (size:Int) (L:LedS) (r:LRec) (hr:r.bytes.length<=1000) :
  ∃ c ss' ts' d' x' L',Ha c size ss ts d L r ss' ts' d' L'/\x.append (appS (logD size ss)).n (appB (logD size ss) r.bytes)=(x',c)/\Log7 (j+1) cnt (Zk ts') ss' d' x'/\((c=0/\ts'=ts++[r]/\L'=L.step r)\/(c=5/\ts'=ts/\L'=L)):=by
 obtain ⟨_,hr2⟩:=h.rel.append (appS (logD size ss)).n (appB (logD size ss) r.bytes)
 rcases h.code (appS (logD size ss)).n (appB (logD size ss) r.bytes) with hc | hc
 ·obtain ⟨ss',happ,h7⟩:=h.append (by omega) size r.bytes hr hc
  refine ⟨0,ss',ts++[r],(d.append (appS (logD size ss)).n (appB (logD size ss) r.bytes)).1,(x.append (appS (logD size ss)).n (appB (logD size ss) r.bytes)).1,L.step r,⟨Prod.ext rfl hc,.inl ⟨rfl,happ,rfl,rfl⟩⟩,Prod.ext rfl (by rw [<- hr2];exact hc),?_,.inl ⟨rfl,rfl,rfl⟩⟩
  have e:Zk (ts++[r])=Zk ts++[r.bytes]:=by simp [Zk]
  rw [e]
  exact h7
 ·have hx:(x.append (appS (logD size ss)).n (appB (logD size ss) r.bytes)).2=5:=by rw [<- hr2];exact hc
  exact ⟨5,ss,ts,d,x,L,⟨Prod.ext (append_five hc) hc,.inr ⟨rfl,rfl,rfl,rfl⟩⟩,Prod.ext (xappend_five hx) hx,h.mono (by omega),.inr ⟨rfl,rfl,rfl⟩⟩
def Hm (width:Nat) (ts:List LRec):Prop:=∀ k,k<=ts.length->(told width (ts.take k)).recs.length<=8*k/\(told width (ts.take k)).inc<=k
theorem Hm.push {width:Nat} {ts:List LRec} (h:Hm width ts) (r:LRec) (h1:((told width ts).step r).recs.length<=(told width ts).recs.length+8) (h2:((told width ts).step r).inc<=(told width ts).inc+1):Hm width (ts++[r]):=by
 intro k hk
 by_cases hl:k<=ts.length
 ·rw [List.take_append_of_le_length hl]
  exact h k hl
 ·have hk2:k=ts.length+1:=by simp at hk;omega
  subst hk2
  have e:(ts++[r]).take (ts.length+1)=ts++[r]:=List.take_of_length_le (by simp)
  have h3:=h ts.length (Nat.le_refl _)
  rw [List.take_length] at h3
  rw [e,Vv]
  omega
section
variable [bn:Inhabited Ban] {base:Nat} {w w':World} {P q g m p n s r xq width j cnt:Nat} {lv wv sgv rlv lvd:Value} {size:Int} {ss:List SegL} {ts:List LRec} {d:Qr} {x:Qn} {L:LedS}
end
section
variable [bn:Inhabited Ban] {base:Nat} {w w1 w1' w2:World} {P q g m p n s r xq width j cnt:Nat} {lv wv sgv rlv lvd:Value} {size:Int} {ss ss':List SegL} {ts ts':List LRec} {d d':Qr} {x x':Qn} {L L':LedS}
end
section
variable [bn:Inhabited Ban] {base:Nat} {w:World} {P q g m p n s r xq width j cnt:Nat} {lv wv sgv rlv lvd:Value} {size:Int} {ss:List SegL} {ts:List LRec} {d:Qr} {x:Qn} {L:LedS}
end
theorem putR_bounds {L:LedS} {a b:Nat} {l:List Qc} {r:LRec} (h:L.putR a b l=some r) (hr:Yv b l=true) (ha:a<16) (hl8:l.length<=8) (hbl:∀ x∈l,x.s.body.length<=40) :
  r.bytes.length<=600/\(L.step r).recs.length<=L.recs.length+8/\(L.step r).inc=L.inc/\(L.step r).safe=L.safe:=by
 unfold LedS.putR at h
 split at h
 ·cases h
 ·simp only [Option.some.injEq] at h
  subst h
  obtain ⟨hright,hb⟩:=(Jm b l).1 hr
  have hs:=Xi ((L.win a).skip b) l
  have hlen:=hs.length_le
  generalize pick ((L.win a).skip b) l=t at *
  have h1:=Vo (l:=t) (N:=40) (fun x hx=>⟨hright x (hs.subset hx),hbl x (hs.subset hx)⟩)
  have h2:=Qp (n:=a) (by omega)
  have h3:=Qp (n:=b) (by omega)
  have h4:=Qp (n:=t.length) (by omega)
  refine ⟨by simp only [LRec.bytes,List.length_cons,List.length_append];omega,?_,rfl,rfl⟩
  show (L.recs++t.map _).length<=_
  rw [List.length_append,List.length_map]
  omega
section
variable [bn:Inhabited Ban] {base B0:Nat} {w:World} {P q g m p n s r xq width j cnt:Nat} {lv wv sgv rlv lvd iv:Value} {size:Int} {ss:List SegL} {ts:List LRec} {d:Qr} {x:Qn} {L:LedS} {l:List Qc}
end
section
variable [bn:Inhabited Ban] {base:Nat} {w w' W:World} {P q g m p n s r xq width j cnt:Nat} {lv wv sgv rlv lvd:Value} {size:Int} {ss:List SegL} {ts:List LRec} {d:Qr} {x:Qn} {L:LedS} {B:Nat->Prop}
end
section
variable [bn:Inhabited Ban] {base:Nat} {w0 w w' W:World} {P q g m p n s r xq width j cnt:Nat} {lv wv sgv rlv lvd:Value} {size:Int} {ss:List SegL} {ts:List LRec} {d:Qr} {x:Qn} {L:LedS}
end
section
variable [bn:Inhabited Ban] {base:Nat} {w w' W:World} {P q g m p n s r xq width j cnt:Nat} {lv wv sgv rlv lvd:Value} {size:Int} {ss:List SegL} {ts:List LRec} {d:Qr} {x:Qn} {L:LedS}
end
section
variable [bn:Inhabited Ban] {base:Nat} {w:World} {P q g m p n s r xq width j cnt:Nat} {lv wv sgv rlv lvd:Value} {size:Int} {ss:List SegL} {ts:List LRec} {d:Qr} {x:Qn} {L:LedS}
def Sr (base width:Nat) (size:Int) (j:Nat) (D:Qr) (X:Qn) (c:Int) (k:Nat) (ss2:List SegL) (ts2:List LRec) (d2:Qr) (x2:Qn) (L2:LedS):Prop :=
 (∀ (w1:World) (p n s:Nat) (wv:Value),Qo base w1 p n s wv D->base<=w1.heap.size->ban.top<=w1.heap.size->Calls Tryz.prog 20 #[.pointer (some ⟨p,0,none⟩),.agg #[.int .u64 width,.int .i64 size]] w1 (OpenG base w1 p n s wv width size c ss2 ts2 d2 L2)) /\
 (∀ (w1:World) (y:Nat) (yv:Value),Zs base w1 y yv X->base<=w1.heap.size->ban.top<=w1.heap.size->Calls Tryz.prog 50 #[.pointer (some ⟨y,0,none⟩),.int .u64 width,.int .i64 size] w1 (ROpen base w1 y yv x2 width k size c)) /\
 (c=0->Log7 (j+1) k (Zk ts2) ss2 d2.sync x2.sync/\Gr width ts2 k L2.sync/\Hm width ts2/\∀ r∈ts2,r.bytes.length<=1000)
theorem wrote_five {c:Int} {ss':List SegL} {ts':List LRec} {d':Qr} {L':LedS} {rc:LRec} (h:Ha c size ss ts d L rc ss' ts' d' L') (hc:c=5):d.full=true\/d.room<msum d.now+rc.bytes.length+20:=by
 have h2:=Yz (logD size ss) rc.bytes
 have h3:(d.append (appS (logD size ss)).n (appB (logD size ss) rc.bytes)).2=5:=by rw [h.1];exact hc
 unfold Qr.append at h3
 split at h3
 ·rename_i hf
  exact .inl hf
 ·split at h3
  ·rename_i hr
   right
   omega
  ·simp at h3
theorem wrote_zero {c:Int} {ss':List SegL} {ts':List LRec} {d':Qr} {L':LedS} {rc:LRec} (h:Ha c size ss ts d L rc ss' ts' d' L') (hc:c=0):d'.full=d.full/\d'.room=d.room/\msum d'.now<=msum d.now+rc.bytes.length+20:=by
 have h2:=Yz (logD size ss) rc.bytes
 have h3:(d.append (appS (logD size ss)).n (appB (logD size ss) rc.bytes)).2=0:=by rw [h.1];exact hc
 have h4:=append_zero h3
 rw [h.1] at h4
 dsimp only at h4
 subst h4
 refine ⟨rfl,rfl,?_⟩
 have h5:=Uv d.now (appS (logD size ss)).n (appB (logD size ss) rc.bytes)
 show msum (mset d.now (appS (logD size ss)).n ((mget d.now (appS (logD size ss)).n).getD []++appB (logD size ss) rc.bytes))<=_
 omega
theorem open_any {k1:Nat} {t1:List LRec} {ss1:List SegL} {D:Qr} {X:Qn} (h7:Log7 j k1 (Zk t1) ss1 D X) (htl:Jc width t1 (told width t1)) (hft:∀ r∈t1,r.bytes.length<=1000) (hlt:Hm width t1) (hj:j+1<=450) (hwz:1<=width/\width<=1024) (hz:1<=size) :
  ∃ (c:Int) (ss2:List SegL) (ts2:List LRec) (d2:Qr) (x2:Qn) (L2:LedS),(c=0\/c=5)/\Sr base width size j D X c (t1.length+1) ss2 ts2 d2 x2 L2/\(c=0->ts2=t1++[.inc ((told width t1).inc+1)]/\L2=(told width t1).step (.inc ((told width t1).inc+1)))/\(c=5->D.full=true\/D.room<msum D.now+60)/\(c=0->d2.full=D.full/\d2.room=D.room/\msum d2.now<=msum D.now+60):=by
 have hlen:(Zk t1).length=t1.length:=by simp [Zk]
 have hmany:t1.length<=900:=by
  have h1:=h7.good.next
  have h2:=h7.next
  omega
 have hlit:=hlt t1.length (Nat.le_refl _)
 rw [List.take_length] at hlit
 have hnb:=Qp (n:=(told width t1).inc+1) (by omega)
 have hrb:(LRec.inc ((told width t1).inc+1)).bytes.length<=11:=by simp [LRec.bytes];omega
 obtain ⟨c,ss2,ts2,d2,x2,L2,hwr,hap,h7',hcase⟩:=Ss h7 (by omega) size (told width t1) (.inc ((told width t1).inc+1)) (by omega)
 refine ⟨c,ss2,ts2,d2,x2,L2,hwr.code,⟨fun w1 p n s wv hd hb hT=>gOpen_g hd h7 (by omega) htl.can hft (by omega) (by omega) hwz hz hb hT hwr,fun w1 y yv hd hb hT=>?_,fun hc=>?_⟩,fun hc=>?_,fun hc=>?_,fun hc=>?_⟩
 ·have hc2:(c=0/\Log7 (j+1) k1 (Zk (t1++[.inc ((told width t1).inc+1)])) ss2 d2 x2)\/c=5:=by
   rcases hcase with ⟨h0,e,_⟩ | ⟨h5,_⟩
   ·left
    rw [e] at h7'
    exact ⟨h0,h7'⟩
   ·exact .inr h5
  exact r16Open_spec hd h7 (by omega) htl.can hft (by omega) hwz hz hb hT hap hc2
 ·rcases hcase with ⟨_,rfl,rfl⟩ | ⟨h5,_⟩
  ·have hcan:(told width t1).can (.inc ((told width t1).inc+1)):=⟨Nat.lt_succ_self _,by omega⟩
   have htp:=htl.push hcan
   have hl2:(t1++[LRec.inc ((told width t1).inc+1)]).length=t1.length+1:=by simp
   have h8:=h7'.sync
   have hrb2:(Zk (t1++[LRec.inc ((told width t1).inc+1)])).length=t1.length+1:=by simp [Zk]
   rw [hrb2] at h8
   have hso:=Gr.sync htp
   rw [hl2] at hso
   refine ⟨h8,hso,hlt.push _ (Nat.le_add_right _ _) (Nat.le_refl _),fun r hr=>?_⟩
   rcases List.mem_append.1 hr with hr | hr
   ·exact hft r hr
   ·rw [List.mem_singleton.1 hr];omega
  ·omega
 ·rcases hcase with ⟨_,e1,e2⟩ | ⟨h5,_⟩
  ·exact ⟨e1,e2⟩
  ·omega
 ·rcases wrote_five hwr hc with h | h
  ·exact .inl h
  ·right;omega
 ·obtain ⟨e1,e2,e3⟩:=wrote_zero hwr hc
  exact ⟨e1,e2,by omega⟩
end
section
variable [bn:Inhabited Ban] {base:Nat} {w W:World} {P q g m p n s r xq width j cnt:Nat} {lv wv sgv rlv lvd:Value} {size:Int} {ss:List SegL} {ts:List LRec} {d:Qr} {x:Qn} {L:LedS}
end
section
variable [bn:Inhabited Ban] {base:Nat} {w:World} {P q g m p n s r xq width j cnt:Nat} {lv wv sgv rlv lvd:Value} {size:Int} {ss:List SegL} {ts:List LRec} {d:Qr} {x:Qn} {L:LedS}
end
section
variable [bn:Inhabited Ban] {base:Nat} {w0 w w' W:World} {P q g m p n s r xq width j cnt:Nat} {lv wv sgv rlv lvd:Value} {size:Int} {ss:List SegL} {ts:List LRec} {d:Qr} {x:Qn} {L:LedS}
end
theorem Log7.start (room:Int) (h0:0<=room) (h1:room<=1000000):Log7 0 0 [] [] { room:=room,full:=false,now:=[],safe:=[],wait:=[] } { room:=room,full:=false,l:=[],safe:=0 } :=
 ⟨⟨rfl,rfl,fun _=>rfl,fun _=>rfl,Int.le_refl _,Int.le_refl _,rfl,Keys.nil,Keys.nil⟩,Good.nil,Inv.nil _ (fun _=>⟨0,Nat.le_refl _,Nat.le_refl _,rfl,rfl⟩),rfl,rfl,Nat.le_refl _,h0,h1⟩
theorem new_both [bn:Inhabited Ban] (base width:Nat) (size room:Int) (hr:100<=room/\room<=1000000) (hw:1<=width/\width<=1024) (hz:1<=size) :
  ∃ (ss2:List SegL) (d2:Qr) (x2:Qn),Sr base width size 0 { room:=max room 0,full:=false,now:=[],safe:=[],wait:=[] } { room:=room,full:=false,l:=[],safe:=0 } 0 1 ss2 [.inc 1] d2 x2 ((LedS.start width).step (.inc 1))/\d2.full=false/\d2.room=room/\msum d2.now<=60:=by
 have e:max room 0=room:=by omega
 rw [e]
 have h7:=Log7.start room (by omega) hr.2
 obtain ⟨c,ss2,ts2,d2,x2,L2,hc,hbo,h0,h5,h6⟩:=open_any (bn:=bn) (base:=base) (t1:=[]) (width:=width) (size:=size) (j:=0) (show Log7 0 0 (Zk []) [] _ _ from h7) ⟨rfl,rfl,rfl,fun k r hr=>by simp at hr⟩ (by simp) (fun k hk=>by
  obtain rfl:k=0:=by simpa using hk
  exact ⟨Nat.le_refl _,Nat.le_refl _⟩) (by omega) hw hz
 rcases hc with rfl | rfl
 ·obtain ⟨rfl,rfl⟩:=h0 rfl
  exact ⟨ss2,d2,x2,hbo,(h6 rfl).1,(h6 rfl).2.1,by have:=(h6 rfl).2.2;have h:msum ([]:AMap)=0:=rfl;rw [h] at this;omega⟩
 ·rcases h5 rfl with h | h
  ·simp at h
  ·have:msum ([]:AMap)=0:=rfl
   dsimp only at h
   rw [this] at h
   omega
structure S16 where
 ss:List SegL
 ts:List LRec
 d:Qr
 x:Qn
 L:LedS
 cnt:Nat
structure Ok16 (width j:Nat) (S:S16):Prop where
 lg7:Log7 j S.cnt (Zk S.ts) S.ss S.d S.x
 tls:Jc width S.ts S.L
 okL:S.L.Ok width
 few:∀ r∈S.ts,r.bytes.length<=1000
 safe:Gr width S.ts S.cnt S.L
 sle:S.L.safe<=S.L.recs.length
 lit:Hm width S.ts
theorem Ok16.mono {width j k:Nat} {S:S16} (h:Ok16 width j S) (hk:j<=k):Ok16 width k S:=⟨h.lg7.mono hk,h.tls,h.okL,h.few,h.safe,h.sle,h.lit⟩
theorem Ok16.many {width j:Nat} {S:S16} (h:Ok16 width j S) (hj:j<=450):S.ts.length<=900/\S.L.recs.length<=8*S.ts.length/\S.L.inc<=S.ts.length:=by
 have h1:=h.lg7.good.next
 have h2:=h.lg7.next
 have e:(Zk S.ts).length=S.ts.length:=by simp [Zk]
 have h3:=h.lit S.ts.length (Nat.le_refl _)
 rw [List.take_length,<- h.tls.recs,<- h.tls.inc] at h3
 exact ⟨by omega,h3.1,h3.2⟩
def Wr16 (size:Int) (S:S16) (rc:LRec) (c:Int) (S':S16):Prop :=
 Ha c size S.ss S.ts S.d S.L rc S'.ss S'.ts S'.d S'.L/\S.x.append (appS (logD size S.ss)).n (appB (logD size S.ss) rc.bytes)=(S'.x,c)/\S'.cnt=S.cnt
theorem Ok16.write {width j:Nat} {S:S16} (h:Ok16 width j S) (hj:j+1<=450) (size:Int) {rc:LRec} (hc:S.L.can rc) (hl:rc.bytes.length<=1000) (hm:(S.L.step rc).recs.length<=S.L.recs.length+8) (hi:(S.L.step rc).inc<=S.L.inc+1) (hsf:(S.L.step rc).safe=S.L.safe) :
  ∃ c S',Wr16 size S rc c S'/\Ok16 width (j+1) S'/\((c=0/\S'.ts=S.ts++[rc]/\S'.L=S.L.step rc/\S'.cnt=S.cnt)\/(c=5/\S'=S)):=by
 obtain ⟨c,ss',ts',d',x',L',hwr,hap,h7,hcase⟩:=Ss h.lg7 (by omega) size S.L rc hl
 rcases hcase with ⟨rfl,rfl,rfl⟩ | ⟨rfl,rfl,rfl⟩
 ·refine ⟨0,⟨ss',S.ts++[rc],d',x',S.L.step rc,S.cnt⟩,⟨hwr,hap,rfl⟩,⟨h7,h.tls.push hc,h.okL.step hc,fun r hr=>?_,h.safe.push rc h.sle,?_,?_⟩,.inl ⟨rfl,rfl,rfl,rfl⟩⟩
  ·rcases List.mem_append.1 hr with hr | hr
   ·exact h.few r hr
   ·rw [List.mem_singleton.1 hr];exact hl
  ·show (S.L.step rc).safe<=(S.L.step rc).recs.length
   have h5:=h.sle
   have h6:S.L.recs.length<=(S.L.step rc).recs.length:=(step_recs S.L rc).length_le
   rw [hsf]
   omega
  ·have hq1:=h.tls.recs
   have hq2:=h.tls.inc
   refine h.lit.push _ ?_ ?_
   ·have hq3:((told width S.ts).step rc).recs.length=(S.L.step rc).recs.length:=by
     have hq4:=congrArg List.length hq1
     clear hwr hap hsf hi hm hl hc
     cases rc
     ·exact hq4.symm
     ·exact hq4.symm
     ·simp only [LedS.step,List.length_append,List.length_map];omega
    rw [hq3,<- hq1]
    exact hm
   ·have hq3:((told width S.ts).step rc).inc=(S.L.step rc).inc:=by
     clear hwr hap hsf hi hm hl hc
     cases rc
     ·rfl
     ·exact hq2.symm
     ·exact hq2.symm
    rw [hq3,<- hq2]
    exact hi
 ·have hd:=hwr.2
  rcases hd with ⟨h0,_⟩ | ⟨_,rfl,_,_⟩
  ·exact absurd h0 (by decide)
  have e1:d'=S.d:=by
   have h1:=append_five (d:=S.d) (sn:=(appS (logD size S.ss)).n) (B:=appB (logD size S.ss) rc.bytes) (by rw [hwr.1])
   rw [hwr.1] at h1
   exact h1
  have e2:x'=S.x:=by
   have h1:=xappend_five (x:=S.x) (sn:=(appS (logD size S.ss)).n) (B:=appB (logD size S.ss) rc.bytes) (by rw [hap])
   rw [hap] at h1
   exact h1
  subst e1 e2
  exact ⟨5,S,⟨hwr,hap,rfl⟩,h.mono (Nat.le_succ _),.inr ⟨rfl,rfl⟩⟩
def Sp (size:Int) (S:S16) (a:Int) (e:Nat) (c:Int) (S':S16):Prop :=
 ((a<0\/16<=a\/2305843009213693952<=e)/\c=1/\S'=S) \/
 ∃ a':Nat,a=a'/\a'<16/\e<2305843009213693952/\((e<=S.L.floor a'/\c=9/\S'=S)\/(¬e<=S.L.floor a'/\Wr16 size S (.floor a' e) c S'))
theorem Ok16.raise {width j:Nat} {S:S16} (h:Ok16 width j S) (hj:j+1<=450) (size:Int) (a:Int) (e:Nat) :
  ∃ c S',Sp size S a e c S'/\Ok16 width (j+1) S'/\((c=0/\∃ a':Nat,a=a'/\a'<16/\S.L.floor a'<e/\S'.ts=S.ts++[.floor a' e]/\S'.L=S.L.step (.floor a' e)/\S'.cnt=S.cnt)\/(c≠0/\S'=S)):=by
 have hm:=h.mono (Nat.le_succ j)
 by_cases ha:a<0\/16<=a\/2305843009213693952<=e
 ·exact ⟨1,S,.inl ⟨ha,rfl,rfl⟩,hm,.inr ⟨by decide,rfl⟩⟩
 ·obtain ⟨a',rfl⟩:∃ a':Nat,a=(a':Int):=⟨a.toNat,by omega⟩
  by_cases hf:e<=S.L.floor a'
  ·exact ⟨9,S,.inr ⟨a',rfl,by omega,by omega,.inl ⟨hf,rfl,rfl⟩⟩,hm,.inr ⟨by decide,rfl⟩⟩
  ·have hlen:=Gz a' e (by omega) (by omega)
   obtain ⟨c,S',hw,hok,hc⟩:=h.write hj size (rc:=.floor a' e) ⟨by omega,by omega,by omega⟩ (by omega) (Nat.le_add_right _ _) (Nat.le_add_right _ _) rfl
   refine ⟨c,S',.inr ⟨a',rfl,by omega,by omega,.inr ⟨hf,hw⟩⟩,hok,?_⟩
   rcases hc with ⟨h0,h1,h2,h3⟩ | ⟨h5,h1⟩
   ·exact .inl ⟨h0,a',rfl,by omega,by omega,h1,h2,h3⟩
   ·exact .inr ⟨by omega,h1⟩
def Tz (size:Int) (S:S16) (a:Int) (b:Nat) (l:List Qc) (c:Int) (nl:List Nat) (S':S16):Prop :=
 ((a<0\/16<=a\/Yv b l=false)/\c=1/\nl=[]/\S'=S) \/
 ∃ a':Nat,a=a'/\a'<16/\Yv b l=true/\nl=(if c=0 then (pick ((S.L.win a').skip b) l).map (·.n) else [])/\((S.L.putR a' b l=none/\c=0/\S'=S)\/∃ rc,S.L.putR a' b l=some rc/\Wr16 size S rc c S')
theorem Ok16.put {width j:Nat} {S:S16} (h:Ok16 width j S) (hj:j+1<=450) (size:Int) (a:Int) (b:Nat) {l:List Qc} (hl8:l.length<=8) (hbl:∀ x∈l,x.s.body.length<=40) :
  ∃ c nl S',Tz size S a b l c nl S'/\Ok16 width (j+1) S'/\nl.length<=8/\((c=0/\∃ a' rc,a=(a':Nat)/\a'<16/\S.L.putR a' b l=some rc/\S'.ts=S.ts++[rc]/\S'.L=S.L.step rc/\S'.cnt=S.cnt)\/S'=S):=by
 have hm:=h.mono (Nat.le_succ j)
 by_cases ha:a<0\/16<=a\/Yv b l=false
 ·exact ⟨1,[],S,.inl ⟨ha,rfl,rfl,rfl⟩,hm,Nat.zero_le _,.inr rfl⟩
 ·have hr:Yv b l=true:=by
   cases hr:Yv b l
   ·exact absurd (.inr (.inr hr)) ha
   ·rfl
  obtain ⟨a',rfl⟩:∃ a':Nat,a=(a':Int):=⟨a.toNat,by omega⟩
  have hpl:=(Xi ((S.L.win a').skip b) l).length_le
  cases hp:S.L.putR a' b l with
  | none=>exact ⟨0,_,S,.inr ⟨a',rfl,by omega,hr,rfl,.inl ⟨hp,rfl,rfl⟩⟩,hm,by simp;omega,.inr rfl⟩
  | some rc =>
   obtain ⟨hl600,hm8,hin,hsf⟩:=putR_bounds hp hr (by omega) hl8 hbl
   obtain ⟨c,S',hw,hok,hc⟩:=h.write hj size (rc:=rc) (LedS.putR_can (by omega) hr (by omega) hp) (by omega) hm8 (by omega) hsf
   refine ⟨c,_,S',.inr ⟨a',rfl,by omega,hr,rfl,.inr ⟨rc,hp,hw⟩⟩,hok,by split <;> simp;omega,?_⟩
   rcases hc with ⟨h0,h1,h2,h3⟩ | ⟨h5,h1⟩
   ·exact .inl ⟨h0,a',rc,rfl,by omega,hp,h1,h2,h3⟩
   ·exact .inr h1
def LedH [bn:Inhabited Ban] (base:Nat) (w:World) (q p width:Nat) (size:Int) (S:S16) (F:Nat->Prop):Prop :=
 ∃ g m lv n s wv sgv rlv,Zc base w q g m lv p n s wv sgv rlv width size S.ss S.ts S.d S.L/\F=Qi q g m lv p n s wv sgv rlv
def DocH [bn:Inhabited Ban] (base:Nat) (w:World) (r xq width:Nat) (size:Int) (S:S16) (F:Nat->Prop):Prop :=
 ∃ lvd,Jg base w r xq lvd S.x width size S.cnt/\F=Vx r xq lvd
def LedN [bn:Inhabited Ban] (base:Nat) (w:World) (q p width:Nat) (size:Int) (S:S16) (F:Nat->Prop) (w':World):Prop :=
 ∃ F',LedH base w' q p width size S F'/\Keep F w w'/\∀ b,F' b->F b\/w.heap.size<=b
section
variable [bn:Inhabited Ban] {base B0:Nat} {w w':World} {q p r xq width j:Nat} {size:Int} {S S':S16} {F G:Nat->Prop}
theorem LedH.no (h:LedH base w q p width size S F) (k:Keep No w w'):LedH base w' q p width size S F:=by
 obtain ⟨g,m,lv,n,s,wv,sgv,rlv,h1,h2⟩:=h
 exact ⟨g,m,lv,n,s,wv,sgv,rlv,h1.no k,h2⟩
theorem DocH.no (h:DocH base w r xq width size S F) (k:Keep No w w'):DocH base w' r xq width size S F:=by
 obtain ⟨lvd,h1,h2⟩:=h
 exact ⟨lvd,h1.no k,h2⟩
theorem LedH.still (h:LedH base w q p width size S F) (k:Keep No w w'):LedN base w q p width size S F w':=⟨F,h.no k,k.no,fun _ hb=>.inl hb⟩
theorem LedH.foot (h:LedH base w q p width size S F):Foot base w F:=by
 obtain ⟨g,m,lv,n,s,wv,sgv,rlv,h1,rfl⟩:=h
 exact h1.foot
theorem LedH.cellsAt (h:LedH base w q p width size S F) {b:Nat} {cs:Array Value} {t:TypeId} (hz:w.heap[b]?=some (.cells cs t (0,0))) (ht:t≠126/\t≠63/\t≠135/\t≠137/\t≠130/\t≠265/\t≠59) (h8:t≠5) (hr:t≠96) (hb:base<=b) (k:Keep (·=b) w w'):LedH base w' q p width size S F/\¬F b:=by
 obtain ⟨g,m,lv,n,s,wv,sgv,rlv,h1,rfl⟩:=h
 exact ⟨⟨g,m,lv,n,s,wv,sgv,rlv,h1.cellsAt hz ht h8 hr hb k,rfl⟩,h1.notCells hz ht⟩
theorem Ga.led {g m:Nat} (h:Ga base w q g m p width size S.ss S.ts S.d S.L F w'):LedN base w q p width size S F w':=by
 obtain ⟨lv,n,s,wv,sgv,rlv,h1,k,ho⟩:=h
 exact ⟨_,⟨g,m,lv,n,s,wv,sgv,rlv,h1,rfl⟩,k,ho⟩
theorem LedH.raise {a:Int} {e:Nat} {c:Int} (h:LedH base w q p width size S F) (ok:Ok16 width j S) (hj:j+1<=450) (hr:Sp size S a e c S') (hb:base<=w.heap.size) (hT:ban.top<=w.heap.size) :
  Calls Tryz.prog 22 #[.pointer (some ⟨q,0,none⟩),.int .i64 a,.int .u64 e] w fun z w'=>z=.returned (.int .i64 c)/\LedN base w q p width size S' F w':=by
 have hm:=ok.many (by omega)
 rcases hr with ⟨hbad,rfl,rfl⟩ | ⟨a',rfl,ha,he,⟨hle,rfl,rfl⟩ | ⟨hle,hw⟩⟩
 ·by_cases ha:a<0\/16<=a
  ·exact (gRaise_out w q a e ha).mono (fun z w1 ⟨h1,h2⟩=>⟨h1,by subst h2;exact h.still (Keep.refl _ _)⟩)
  ·obtain ⟨a',rfl⟩:∃ a':Nat,a=(a':Int):=⟨a.toNat,by omega⟩
   exact (gRaise_big a' e (by omega) (by omega)).mono (fun z w1 ⟨h1,h2⟩=>⟨h1,by subst h2;exact h.still (Keep.refl _ _)⟩)
 ·have h':=h
  obtain ⟨g,m,lv,n,s,wv,sgv,rlv,h1,_⟩:=h'
  exact (gRaise_old h1.led h1.ok a' e ha (by omega) hle).mono (fun z w1 ⟨h1,h2⟩=>⟨h1,by subst h2;exact h.still (Keep.refl _ _)⟩)
 ·obtain ⟨g,m,lv,n,s,wv,sgv,rlv,h1,rfl⟩:=h
  exact (gRaise_g h1 a' e ha (by omega) (by omega) ok.lg7.good (by omega) (ok.lg7.small (by omega)) (by omega) hb hT hw.1).mono (fun z w1 ⟨e1,e2⟩=>⟨e1,e2.led⟩)
theorem LedH.put {a:Int} {b:Nat} {l:List Qc} {c:Int} {nl:List Nat} {iv:Value} (h:LedH base w q p width size S F) (ok:Ok16 width j S) (hj:j+1<=450) (hr:Tz size S a b l c nl S') (hb:base<=w.heap.size) (hT:ban.top<=w.heap.size) (hits:Xr base w B0 iv l) (hl8:l.length<=8) (hbl:∀ x∈l,x.s.body.length<=40) :
  Calls Tryz.prog 24 #[.pointer (some ⟨q,0,none⟩),.int .i64 a,.int .u64 b,iv] w fun z w'=>∃ tv,z=.returned (.tuple #[tv,.int .i64 c])/\OwnN w' w.heap.size tv nl/\LedN base w q p width size S' F w':=by
 have hm:=ok.many (by omega)
 rcases hr with ⟨hbad,rfl,rfl,rfl⟩ | ⟨a',rfl,ha,hrt,rfl,⟨hpr,rfl,rfl⟩ | ⟨rc,hpr,hw⟩⟩
 ·by_cases ha:a<0\/16<=a
  ·exact (gPut_out w q a b iv ha).mono (fun z w1 ⟨h1,h2⟩=>⟨_,h1,OwnN.nil _ _,by subst h2;exact h.still (Keep.refl _ _)⟩)
  ·obtain ⟨a',rfl⟩:∃ a':Nat,a=(a':Int):=⟨a.toNat,by omega⟩
   have hrt:Yv b l=false:=by
    rcases hbad with h | h | h
    ·omega
    ·omega
    ·exact h
   exact (gPut_wrong q a' b (by omega) hits (by omega) (fun x hx=>by have:=hbl x hx;omega) hrt).mono (fun z w1 hz=>⟨_,hz.1,OwnN.nil _ _,h.still hz.2⟩)
 ·have h':=h
  obtain ⟨g,m,lv,n,s,wv,sgv,rlv,h1,_⟩:=h'
  have hg:=Sb (c:=0) (ss':=S'.ss) (ts':=S'.ts) (d':=S'.d) (L':=S'.L) h1 ok.lg7.good (by omega) (ok.lg7.small (by omega)) ha hits hrt hl8 hbl (by omega) hb hT (fun r e=>by rw [hpr] at e;cases e)
  rw [hpr] at hg
  exact hg.mono (fun z w1 ⟨tv,e1,e2,e3⟩=>⟨tv,e1,e2,h.still e3⟩)
 ·obtain ⟨g,m,lv,n,s,wv,sgv,rlv,h1,rfl⟩:=h
  have hg:=Sb h1 ok.lg7.good (by omega) (ok.lg7.small (by omega)) ha hits hrt hl8 hbl (by omega) hb hT (fun r e=>by rw [hpr] at e;cases e;exact hw.1)
  rw [hpr] at hg
  refine hg.mono ?_
  rintro z w1 ⟨tv,e1,e2,e3⟩
  have e3:Ga base w q g m p width size S'.ss S'.ts S'.d S'.L (Qi q g m lv p n s wv sgv rlv) w1:=e3
  exact ⟨tv,e1,e2,e3.led⟩
def S16.sync (S:S16):S16:={ S with d:=S.d.sync,x:=S.x.sync,L:=S.L.sync,cnt:=S.ts.length }
theorem LedH.sync (h:LedH base w q p width size S F) (hb:base<=w.heap.size):Calls Tryz.prog 23 #[.pointer (some ⟨q,0,none⟩)] w fun z w'=>z=.returned (.int .i64 0)/\LedN base w q p width size S.sync F w':=by
 obtain ⟨g,m,lv,n,s,wv,sgv,rlv,h1,rfl⟩:=h
 refine (gSync_g h1 hb).mono ?_
 rintro z w1 ⟨rfl,lv2,n2,s2,wv2,sgv2,rlv2,h2,k,ho⟩
 exact ⟨rfl,_,⟨g,m,lv2,n2,s2,wv2,sgv2,rlv2,h2,rfl⟩,k,ho⟩
end
def Sm (q:Nat) (o:List Nat):Array Value:=(Value.pointer (some ⟨q,0,none⟩) :: o.map (fun n:Nat=>Value.int .u8 n)).toArray
structure Su (base:Nat) (w:World) (R q:Nat) (o:List Nat):Prop where
 blk:w.heap[R]?=some (.cells (Sm q o) 193 (0,0))
 len:o.length=16
 pb:base<=R
section
variable {base:Nat} {w w':World} {R q:Nat} {o:List Nat}
theorem Su.keep (h:Su base w R q o) {G:Nat->Prop} (k:Keep G w w') (hn:¬G R):Su base w' R q o:=⟨k.heap h.blk hn,h.len,h.pb⟩
theorem Su.no (h:Su base w R q o) (k:Keep No w w'):Su base w' R q o:=h.keep k (fun e=>e)
theorem Su.led (h:Su base w R q o):w.cell? ⟨R,0,none⟩=some (.pointer (some ⟨q,0,none⟩)):=by
 rw [Qq h.blk 0]
 rfl
theorem Su.owes (h:Su base w R q o) (a:Nat) (ha:a<16):∃ n,o[a]?=some n/\w.cell? ⟨R,1+a,none⟩=some (.int .u8 n):=by
 have hl:=h.len
 refine ⟨o[a],List.getElem?_eq_getElem (by omega),?_⟩
 rw [Qq h.blk (1+a)]
 simp [Sm,Nat.add_comm 1 a]
 exact ⟨_,List.getElem?_eq_getElem (by omega),rfl⟩
theorem Su.set (h:Su base w R q o) (a n:Nat):Su base (w.setCell ⟨R,1+a,none⟩ (.int .u8 n)) R q (o.set a n):=by
 have e:=Qz (i:=1+a) (u:=.int .u8 n) h.blk
 refine ⟨?_,by simp [h.len],h.pb⟩
 rw [e]
 congr 2
 simp [Sm,Nat.add_comm 1 a,List.map_set]
end
section
variable [bn:Inhabited Ban] {base:Nat} {w w':World} {R q p width j:Nat} {size:Int} {o:List Nat} {S S':S16} {F:Nat->Prop}
theorem Su.byLed (h:Su base w R q o) (hl:LedH base w q p width size S F):¬F R:=by
 obtain ⟨g,m,lv,n,s,wv,sgv,rlv,h1,rfl⟩:=hl
 exact h1.notCells h.blk (by simp)
end
theorem rcNew_nil (w:World):Calls Tryz.prog 30 #[.pointer none] w fun e w'=>e=.returned (.pointer none)/\w'=w:=by
 go_enter Tryz.func30,Tryz.ntmps30
 go_wp2_with fail
 go_ret
 exact ⟨rfl,rfl⟩
theorem rcNew_spec {base:Nat} {w:World} (q:Nat) (hb:base<=w.heap.size):Calls Tryz.prog 30 #[.pointer (some ⟨q,0,none⟩)] w fun e w'=>e=.returned (.pointer (some ⟨w.heap.size,0,none⟩))/\Su base w' w.heap.size q (List.replicate 16 0)/\Keep No w w':=by
 go_enter Tryz.func30,Tryz.ntmps30
 go_wp2_with fail
 go_ret
 exact ⟨rfl,⟨Qy _ _,rfl,hb⟩,(Keep.refl _ _).alloc _⟩
theorem rcOwes_nil (w:World) (a:Int):Calls Tryz.prog 33 #[.pointer none,.int .i64 a] w fun e w'=>e=.returned (.int .u8 0)/\w'=w:=by
 go_enter Tryz.func33,Tryz.ntmps33
 go_wp2_with fail
 go_ret
 exact ⟨rfl,rfl⟩
theorem rcOwes_out (w:World) (R:Nat) (a:Int) (ha:a<0\/16<=a):Calls Tryz.prog 33 #[.pointer (some ⟨R,0,none⟩),.int .i64 a] w fun e w'=>e=.returned (.int .u8 0)/\w'=w:=by
 by_cases h:a<0
 ·clear ha
  go_enter Tryz.func33,Tryz.ntmps33
  go_wp2_with fail
  go_ret
  exact ⟨rfl,rfl⟩
 ·have h2:16<=a:=by omega
  clear ha
  go_enter Tryz.func33,Tryz.ntmps33
  go_wp2_with fail
  go_ret
  exact ⟨rfl,rfl⟩
theorem rcOwes_spec {base:Nat} {w:World} {R q a n:Nat} {o:List Nat} (h:Su base w R q o) (ha:a<16) (hn:o[a]?=some n):Calls Tryz.prog 33 #[.pointer (some ⟨R,0,none⟩),.int .i64 a] w fun e w'=>e=.returned (.int .u8 n)/\w'=w:=by
 obtain ⟨n',hn',c⟩:=h.owes a ha
 rw [hn] at hn'
 simp only [Option.some.injEq] at hn'
 subst hn'
 have ha1:¬(a:Int)<0:=by omega
 have ha2:¬(16:Int)<=(a:Int):=by omega
 have ha3:(a:Int)<16:=by omega
 clear h hn ha
 go_enter Tryz.func33,Tryz.ntmps33
 go_wp2_with fail
 go_ret
 exact ⟨rfl,rfl⟩
theorem rcLedger_nil (w:World):Calls Tryz.prog 34 #[.pointer none] w fun e w'=>e=.returned (.pointer none)/\w'=w:=by
 go_enter Tryz.func34,Tryz.ntmps34
 go_wp2_with fail
 go_ret
 exact ⟨rfl,rfl⟩
theorem rcTick_nil (w:World):Calls Tryz.prog 32 #[.pointer none] w fun e w'=>e=.returned (.slice none 0 0)/\w'=w:=by
 go_enter Tryz.func32,Tryz.ntmps32
 go_wp2_with fail
 go_ret
 exact ⟨rfl,rfl⟩
theorem rcReceive_nil (w:World) (fv:Value) (cs:Array Value) (hf:fv=.agg cs):Calls Tryz.prog 31 #[.pointer none,fv] w fun e w'=>e=.returned (.bool false)/\Keep No w w':=by
 subst hf
 go_enter Tryz.func31,Tryz.ntmps31
 go_wp2_with fail
 go_ret
 exact ⟨rfl,(Keep.refl _ _).alloc _⟩
end Go.Proofs.YtfdmbomlkpkegaaGreat
