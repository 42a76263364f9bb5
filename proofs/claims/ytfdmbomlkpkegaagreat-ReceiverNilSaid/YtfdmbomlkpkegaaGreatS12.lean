/- Lemmas for ReceiverNil. -/
import Derived.Test.YtfdmbomlkpkegaaGreatS11
import Derived.Test.YtfdmbomlkpkegaaGreatS3
set_option maxRecDepth 100000
set_option maxHeartbeats 8000000
set_option linter.all false
namespace Go.Proofs.YtfdmbomlkpkegaaGreat
open Go Go.RowKit
def InS.item (s:InS):Qc × InS:=if s.num.2.span.2.e=0 then (⟨s.num.1,s.num.2.span.1⟩,s.num.2.span.2) else (⟨0,⟨0,[]⟩⟩,s.num.2.span.2)
theorem tGet_spec [bn:Inhabited Ban] {base g:Nat} {w:World} {s:InS} (h:InAt base w g s) (hlen:s.l.length<=1099511627776) :
  Calls Tryz.prog 162 #[.pointer (some ⟨g,0,none⟩)] w fun e w'=>∃ v,e=.returned (.agg #[.int .u64 s.item.1.n,.int .i64 s.item.1.s.c,v])/\OwnB w' w.heap.size v s.item.1.s.body/\InAt base w' g s.item.2/\Keep (·=g) w w':=by
 obtain ⟨b2,hb2⟩:∃ b,b=w.heap.size:=⟨_,rfl⟩
 have hgl:g<w.heap.size:=by obtain ⟨_,v,h2,_⟩:=h;exact Qt h2
 obtain ⟨W,hW⟩:∃ W,W=w.alloc (.cells #[.int .u64 0,.int .i64 0,.slice none 0 0] 111):=⟨_,rfl⟩
 have kW:Keep No w W:=by rw [hW];exact (Keep.refl _ _).alloc _
 have hA:W.heap[b2]?=some (.cells #[.int .u64 0,.int .i64 0,.slice none 0 0] 111 (0,0)):=by rw [hW,hb2];exact Qy _ _
 have hn:=Gm (h.no kW) hlen
 obtain ⟨k,hk⟩:∃ k,k=s.num.1:=⟨_,rfl⟩
 obtain ⟨s1,hs1⟩:∃ s1,s1=s.num.2:=⟨_,rfl⟩
 have hl1:s1.l.length<=1099511627776:=by rw [hs1];exact Nat.le_trans (num_len s) hlen
 have hit:s.item=if s1.span.2.e=0 then (⟨k,s1.span.1⟩,s1.span.2) else (⟨0,⟨0,[]⟩⟩,s1.span.2):=by rw [hs1,hk];rfl
 rw [<- hk,<- hs1] at hn
 have HH:=Lib.hid (A6 kW hA hl1 hit hgl h)
 clear kW hA hl1 hit hgl h hk hs1 hlen
 subst hb2
 go_enter Tryz.func162,Tryz.ntmps162
 go_wp2_with fail
 rw [<- hW]
 clear hW
 refine hn.mono ?_
 rintro e w1 ⟨rfl,hi1,k1⟩
 clear hn
 have kA:=fun (w:World) o=>(Keep.refl No w).alloc o
 have hB3:=Qy w1 (.cells #[.int .u64 k,.int .i64 0,.slice none 0 0] 111)
 have hi3:=hi1.no (kA w1 (.cells #[.int .u64 k,.int .i64 0,.slice none 0 0] 111))
 have hs:=sGet_spec hi3 HH.out.2.2.1
 have HB:=Lib.hid (A3 hB3 hi3 k1)
 clear hB3 hi3 k1 hi1
 go_wp2_with fail
 refine hs.mono ?_
 rintro e w4 ⟨v4,rfl,own4,hi4,k4⟩
 clear hs
 obtain ⟨vo,vc,rfl⟩:=own4.form
 have hit:=HH.out.2.2.2.1
 have hgl:=HH.out.2.2.2.2.1
 have hz1:=HB.out.2.2.size
 have hzW:=HH.out.1.size
 have hne:¬w1.heap.size=g:=fun e=>by omega
 have hne2:¬w.heap.size=g:=fun e=>by omega
 have hB4:=k4.heap HB.out.1 hne
 have hA4:=k4.heap ((kA w1 _).heap (HB.out.2.2.heap HH.out.2.1 hne2) (fun e=>e)) hne2
 have c4:=Qq hB4 1
 have c5:=Qq hB4 2
 have f4:=Qg hB4
 simp at c4 c5
 have kE:=(Qd (g:=w1.heap.size) (i:=1) w4 (.int .i64 s1.span.1.c)).setCell (p:=⟨w1.heap.size,2,none⟩) (.inl rfl) (.slice vo s1.span.1.body.length vc)
 have hBY:=Qz (i:=2) (u:=.slice vo s1.span.1.body.length vc) (Qz (i:=1) (u:=.int .i64 s1.span.1.c) hB4)
 obtain ⟨Y,hY⟩:∃ Y,(w4.setCell ⟨w1.heap.size,1,none⟩ (.int .i64 s1.span.1.c)).setCell ⟨w1.heap.size,2,none⟩ (.slice vo s1.span.1.body.length vc)=Y:=⟨_,rfl⟩
 have hiY:=hi4.keepF kE (by rintro b rfl;exact ⟨by have:=hi4.at';omega,Qt hB4,fun cs fr e=>by rw [hB4] at e;simp at e⟩) (fun e=>hne e.symm)
 rw [hY] at hBY kE hiY
 have hlA:=Qt HH.out.2.1
 have hAY:=kE.heap hA4 (fun e=>by omega)
 have hie:=Vl hiY
 have cY:=Qq hBY 0
 have cY1:=Qq hBY 1
 have cY2:=Qq hBY 2
 have cA:=Qq hAY 0
 have cA1:=Qq hAY 1
 have cA2:=Qq hAY 2
 have fA:=Qg hAY
 simp at cY cY1 cY2 cA cA1 cA2
 go_wp2_with fail
 refine hie.mono ?_
 rintro e w5 ⟨rfl,hw5⟩
 subst hw5
 have hFZ:Foot base w5 (·=w.heap.size):=by
  rintro b rfl
  exact ⟨by have:=hi4.at';omega,Qt hAY,fun cs fr e=>by rw [hAY] at e;simp at e⟩
 have kW1:Keep (·=g) w w1:=(HH.out.1.no (F:=(·=g))).trans HB.out.2.2 (fun x _ h=>h)
 have ho4:=own4.lt
 simp at ho4
 have own5:=own4.mono (B':=w.heap.size) (by simp;omega)
 have own6:=own5.keep kE (fun b hb=>by have:=ho4 b hb;omega)
 clear hY
 by_cases he:s1.span.2.e=0
 ·rw [if_pos he] at hit
  rw [he]
  go_wp2_with fail
  have hZ:=Qz (i:=2) (u:=.slice vo s1.span.1.body.length vc) (Qz (i:=1) (u:=.int .i64 s1.span.1.c) (Qz (i:=0) (u:=.int .u64 k) hAY))
  have kZ:=((Qd (g:=w.heap.size) (i:=0) w5 (.int .u64 k)).setCell (p:=⟨w.heap.size,1,none⟩) (.inl rfl) (.int .i64 s1.span.1.c)).setCell (p:=⟨w.heap.size,2,none⟩) (.inl rfl) (.slice vo s1.span.1.body.length vc)
  have z0:=Qq hZ 0
  have z1:=Qq hZ 1
  have z2:=Qq hZ 2
  simp at z0 z1 z2
  refine bodyPost_ret (v:=.agg #[.int .u64 k,.int .i64 s1.span.1.c,.slice vo s1.span.1.body.length vc]) (by simp [results,Tryz.results162,go_sem,z0,z1,z2]) rfl ?_
  rw [hit]
  have kAll:=(((kW1.trans (kA w1 (.cells #[.int .u64 k,.int .i64 0,.slice none 0 0] 111)) (fun x _ h=>h.elim)).trans k4 (fun x _ h=>h)).trans kE (fun x hx h=>by omega)).trans kZ (fun x hx h=>by omega)
  have hiZ:=hiY.keepF kZ hFZ (by omega)
  exact ⟨_,rfl,own6.keep kZ (fun b hb=>by have:=ho4 b hb;omega),hiZ,kAll⟩
 ·rw [if_neg he] at hit
  have hq:(s1.span.2.e==0)=false:=by simpa using he
  go_wp2_with fail
  have hZ:=Qz (i:=2) (u:=.slice none 0 0) (Qz (i:=1) (u:=.int .i64 0) (Qz (i:=0) (u:=.int .u64 0) hAY))
  have kZ:=((Qd (g:=w.heap.size) (i:=0) w5 (.int .u64 0)).setCell (p:=⟨w.heap.size,1,none⟩) (.inl rfl) (.int .i64 0)).setCell (p:=⟨w.heap.size,2,none⟩) (.inl rfl) (.slice none 0 0)
  have z0:=Qq hZ 0
  have z1:=Qq hZ 1
  have z2:=Qq hZ 2
  simp at z0 z1 z2
  refine bodyPost_ret (v:=.agg #[.int .u64 0,.int .i64 0,.slice none 0 0]) (by simp [results,Tryz.results162,go_sem,z0,z1,z2]) rfl ?_
  rw [hit]
  have kAll:=(((kW1.trans (kA w1 (.cells #[.int .u64 k,.int .i64 0,.slice none 0 0] 111)) (fun x _ h=>h.elim)).trans k4 (fun x _ h=>h)).trans kE (fun x hx h=>by omega)).trans kZ (fun x hx h=>by omega)
  have hiZ:=hiY.keepF kZ hFZ (by omega)
  exact ⟨_,rfl,OwnB.nil _ _,hiZ,kAll⟩
end Go.Proofs.YtfdmbomlkpkegaaGreat
namespace Go.Proofs.YtfdmbomlkpkegaaGreat
theorem Gl (k:Nat) (h:k<256):(UInt8.ofNat k).toNat=k:=by simp;omega
theorem numP_numB:∀ (k i acc n:Nat) (r:List UInt8),n<2*128 ^ k->(i+k=9)->(n=0->i=0)->numP i acc (numB n++r)=.ok (acc+n*128 ^ i,r)
 | 0,i,acc,n,r,h,hi,h0=>by
  have hn:n<2:=by simpa using h
  rw [Yb (by omega)]
  show numP i acc (UInt8.ofNat n :: r)=_
  unfold numP
  rw [Gl n (by omega),if_neg (by omega),if_neg (by omega),if_pos (by omega)]
 | k+1,i,acc,n,r,h,hi,h0=>by
  by_cases hc:n<128
  ·rw [Yb hc]
   show numP i acc (UInt8.ofNat n :: r)=_
   unfold numP
   rw [Gl n (by omega),if_neg (by omega),if_neg (by omega),if_pos hc]
  ·rw [Rv (by omega)]
   show numP i acc (UInt8.ofNat (n % 128+128) :: (numB (n / 128)++r))=_
   unfold numP
   rw [Gl _ (by omega),if_neg (by omega),if_neg (by omega),if_neg (by omega)]
   have e:(n % 128+128) % 128=n % 128:=by omega
   rw [e,numP_numB k (i+1) _ (n / 128) r (by rw [Nat.div_lt_iff_lt_mul (by decide)];rw [Nat.pow_succ,<- Nat.mul_assoc] at h;exact h) (by omega) (fun hz=>by omega)]
   have e2:n=n % 128+128*(n / 128):=(Nat.mod_add_div n 128).symm
   congr 2
   rw [Nat.pow_succ,Nat.add_assoc]
   congr 1
   conv=>rhs;rw [e2]
   rw [Nat.add_mul]
   congr 1
   rw [Nat.mul_comm (128 ^ i) 128,<- Nat.mul_assoc,Nat.mul_comm (n / 128) 128]
theorem Gx {n:Nat} (hn:n<18446744073709551616) (r:List UInt8):InS.num ⟨numB n++r,0⟩=(n,⟨r,0⟩):=by
 have h:=numP_numB 9 0 0 n r (Nat.lt_of_lt_of_le hn (by decide)) rfl (fun _=>rfl)
 unfold InS.num
 rw [if_pos rfl]
 show InS.numR _ (numP 0 0 (numB n++r))=_
 rw [h]
 show (0+n*128 ^ 0,_)=_
 simp
theorem some_numB {b:List UInt8} (most:Nat) (hb:b.length<=most) (hm:most<18446744073709551616) (r:List UInt8):InS.some ⟨numB b.length++(b++r),0⟩ most=(b,⟨r,0⟩):=by
 unfold InS.some
 rw [if_pos rfl,Gx (by omega)]
 simp only
 rw [if_pos trivial,if_neg (by omega),if_neg (by simp)]
 simp
def Ys.Right (s:Ys):Prop:=0<=s.c/\s.c<8/\s.body.length<=4096
theorem span_bytes {s:Ys} (h:s.Right) (r:List UInt8):InS.span ⟨s.bytes++r,0⟩=(s,⟨r,0⟩):=by
 obtain ⟨h1,h2,h3⟩:=h
 obtain ⟨c,hc⟩:∃ c:Nat,s.c=(c:Int):=⟨s.c.toNat,by omega⟩
 have e:s.bytes++r=UInt8.ofNat c :: (numB s.body.length++(s.body++r)):=by
  unfold Ys.bytes
  rw [hc]
  have:((c:Int) % 256).toNat=c:=by omega
  rw [this]
  simp
 have hby:InS.byte ⟨s.bytes++r,0⟩=(c,⟨numB s.body.length++(s.body++r),0⟩):=by
  unfold InS.byte
  rw [if_pos rfl,e]
  simp only
  rw [Gl c (by omega)]
 have hcl:InS.cls ⟨s.bytes++r,0⟩=⟨numB s.body.length++(s.body++r),0⟩:=by
  unfold InS.cls
  rw [hby]
  simp only
  rw [if_pos (by omega)]
 unfold InS.span
 rw [hcl,hby,some_numB 4096 h3 (by decide)]
 simp only
 rw [if_pos trivial,<- hc]
theorem item_bytes {i:Qc} (hn:i.n<18446744073709551616) (h:i.s.Right) (r:List UInt8):InS.item ⟨i.bytes++r,0⟩=(i,⟨r,0⟩):=by
 unfold InS.item Qc.bytes
 rw [List.append_assoc,Gx hn]
 simp only
 rw [span_bytes h]
 simp only
 rw [if_pos trivial]
inductive LRec where
 | inc (n:Nat)
 | floor (a n:Nat)
 | put (a base:Nat) (l:List Qc)
def Qb (l:List Qc):List UInt8:=l.flatMap Qc.bytes
def LRec.bytes:LRec->List UInt8
 | .inc n=>1 :: numB n
 | .floor a n=>2 :: (numB a++numB n)
 | .put a base l=>3 :: (numB a++(numB base++(numB l.length++Qb l)))
def Qc.Right (i:Qc):Prop:=i.n<2305843009213693952/\i.s.Right
structure AgS where
 floor:Nat
 now:WinS
 safe:WinS
structure RecS where
 who:Nat
 n:Nat
 s:Ys
structure LedS where
 inc:Nat
 ag:List AgS
 recs:List RecS
 safe:Nat
def LedS.start (width:Nat):LedS:=⟨0,List.replicate 16 ⟨0,WinS.new width,⟨0,0,[]⟩⟩,[],0⟩
def WinS.putAll (w:WinS) (l:List Qc):WinS:=l.foldl (fun w x=>w.put x.n) w
def WinS.allIn:WinS->List Qc->Prop
 | _,[]=>True
 | w,x :: l=>w.takes x.n=true/\(w.put x.n).allIn l
def LedS.win (L:LedS) (a:Nat):WinS:=match L.ag[a]? with
 | none=>⟨0,0,[]⟩
 | some g=>g.now
def LedS.floor (L:LedS) (a:Nat):Nat:=match L.ag[a]? with
 | none=>0
 | some g=>g.floor
def LedS.step (L:LedS):LRec->LedS
 | .inc n=>{ L with inc:=n }
 | .floor a n=>{ L with ag:=L.ag.modify a (fun g=>{ g with floor:=n }) }
 | .put a base l=>{ L with ag:=L.ag.modify a (fun g=>{ g with now:=(g.now.skip base).putAll l }),recs:=L.recs++l.map (fun x=>⟨a,x.n,x.s⟩) }
def LedS.can (L:LedS):LRec->Prop
 | .inc n=>L.inc<n/\n<2305843009213693952
 | .floor a n=>a<16/\L.floor a<n/\n<2305843009213693952
 | .put a base l=>a<16/\base<2305843009213693952/\l.length<=64/\(∀ x∈l,x.Right)/\((L.win a).skip base).allIn l
def LedS.sync (L:LedS):LedS:={ L with ag:=L.ag.map (fun g=>{ g with safe:=g.now }),safe:=L.recs.length }
structure AgS.Ok (width:Nat) (g:AgS):Prop where
 now:g.now.Ok
 width:g.now.width=width
 low:g.now.low<2305843009213693952
 below:∀ n,HasR g.now.set n->n<2305843009213693952
 floor:g.floor<2305843009213693952
structure LedS.Ok (width:Nat) (L:LedS):Prop where
 wide:1<=width/\width<=1024
 inc:L.inc<2305843009213693952
 ag:L.ag.length=16
 win:∀ (a:Nat) (g:AgS),L.ag[a]?=some g->g.Ok width
 had:∀ r∈L.recs,r.who<16/\r.n<2305843009213693952/\r.s.Right/\(L.win r.who).Had r.n
 once:L.recs.Pairwise (fun a b=>¬(a.who=b.who/\a.n=b.n))
theorem LedS.Ok.start {width:Nat} (h:1<=width/\width<=1024):(LedS.start width).Ok width:=by
 refine ⟨h,(by show (0:Nat)<_;decide),by simp [LedS.start],fun a g hg=>?_,fun r hr=>by simp [LedS.start] at hr,List.Pairwise.nil⟩
 have hm:=List.mem_of_getElem? hg
 have:g=⟨0,WinS.new width,⟨0,0,[]⟩⟩:=List.eq_of_mem_replicate hm
 subst this
 exact ⟨WinS.Ok.new h,rfl,(by show (0:Nat)<_;decide),fun n hn=>(HasR.nil _ hn).elim,(by show (0:Nat)<_;decide)⟩
structure WinS.Fine (width:Nat) (w:WinS):Prop where
 ok:w.Ok
 width:w.width=width
 low:w.low<2305843009213693952
 below:∀ n,HasR w.set n->n<2305843009213693952
theorem WinS.Fine.had {width:Nat} {w:WinS} (h:w.Fine width) {n:Nat} (hn:w.Had n):n<2305843009213693952:=by
 rcases hn with hn | hn
 ·have:=h.low;omega
 ·exact h.below n hn
theorem WinS.Fine.of {width:Nat} {w:WinS} (h:w.Ok) (hw:w.width=width) (hb:∀ n,w.Had n->n<2305843009213693952):w.Fine width:=⟨h,hw,hb _ (.inl (Nat.le_refl _)),fun n hn=>hb n (.inr hn)⟩
theorem WinS.Fine.skip {width:Nat} {w:WinS} (h:w.Fine width) {b:Nat} (hb:b<=2305843009213693952):(w.skip b).Fine width:=by
 obtain ⟨h1,h2,h3,h4⟩:=h.ok.skip (b:=b) (by omega)
 exact WinS.Fine.of h1 (h2.trans h.width) (fun n hn=>by rcases (h4 n).1 hn with a | a;exact h.had a;omega)
theorem WinS.Fine.put {width:Nat} {w:WinS} (h:w.Fine width) {n:Nat} (hn:n<2305843009213693952):(w.put n).Fine width:=by
 obtain ⟨h1,h2,h3,h4⟩:=h.ok.put (n:=n) (by omega)
 exact WinS.Fine.of h1 (h2.trans h.width) (fun m hm=>by rcases (h4 m).1 hm with a | a;exact h.had a;rw [a.2];exact hn)
theorem WinS.Fine.putAll {width:Nat}:∀ {l:List Qc} {w:WinS},w.Fine width->(∀ x∈l,x.n<2305843009213693952)->(w.putAll l).Fine width
 | [],_,h,_=>h
 | x :: l,w,h,hl=>WinS.Fine.putAll (l:=l) (w:=w.put x.n) (h.put (hl x (by simp))) (fun y hy=>hl y (by simp [hy]))
theorem putAll_had {width:Nat}:∀ {l:List Qc} {w:WinS},w.Fine width->(∀ x∈l,x.n<2305843009213693952)->w.allIn l->∀ m,(w.putAll l).Had m ↔ w.Had m\/∃ x∈l,x.n=m
 | [],w,h,_,_,m=>by simp [WinS.putAll]
 | x :: l,w,h,hl,ha,m=>by
  have ih:=putAll_had (l:=l) (w:=w.put x.n) (h.put (hl x (by simp))) (fun y hy=>hl y (by simp [hy])) ha.2 m
  have hp:=(h.ok.put (n:=x.n) (by have:=hl x (by simp);omega)).2.2.2 m
  show ((w.put x.n).putAll l).Had m ↔ _
  rw [ih,hp]
  simp only [ha.1,true_and,List.mem_cons,exists_eq_or_imp]
  constructor
  ·rintro ((a | a) | a)
   ·exact .inl a
   ·exact .inr (.inl a.symm)
   ·exact .inr (.inr a)
  ·rintro (a | a | a)
   ·exact .inl (.inl a)
   ·exact .inl (.inr a.symm)
   ·exact .inr a
theorem allIn_new {width:Nat}:∀ {l:List Qc} {w:WinS},w.Fine width->(∀ x∈l,x.n<2305843009213693952)->w.allIn l->(∀ x∈l,¬w.Had x.n)/\l.Pairwise (fun a b=>a.n≠b.n)
 | [],w,h,_,_=>⟨fun x hx=>by simp at hx,List.Pairwise.nil⟩
 | x :: l,w,h,hl,ha=>by
  have hx:=hl x (by simp)
  obtain ⟨i1,i2⟩:=allIn_new (l:=l) (w:=w.put x.n) (h.put hx) (fun y hy=>hl y (by simp [hy])) ha.2
  have hp:=(h.ok.put (n:=x.n) (by omega)).2.2.2
  refine ⟨fun y hy=>?_,List.pairwise_cons.2 ⟨fun y hy e=>?_,i2⟩⟩
  ·rcases List.mem_cons.1 hy with rfl | hy
   ·exact ((h.ok.takes _).1 ha.1).1
   ·exact fun hh=>i1 y hy ((hp _).2 (.inl hh))
  ·exact i1 y hy ((hp _).2 (.inr ⟨ha.1,e.symm⟩))
theorem allIn_at:∀ {l:List Qc} {w:WinS} {k:Nat} {x:Qc},w.allIn l->l[k]?=some x->(w.putAll (l.take k)).takes x.n=true
 | [],w,k,x,_,h=>by simp at h
 | y :: l,w,0,x,ha,h=>by
  simp at h
  subst h
  exact ha.1
 | y :: l,w,k+1,x,ha,h=>allIn_at (l:=l) (w:=w.put y.n) ha.2 (by simpa using h)
theorem putAll_succ {l:List Qc} {k:Nat} {x:Qc} (w:WinS) (h:l[k]?=some x):w.putAll (l.take (k+1))=(w.putAll (l.take k)).put x.n:=by
 obtain ⟨hk,rfl⟩:=List.getElem?_eq_some_iff.1 h
 unfold WinS.putAll
 rw [List.take_succ_eq_append_getElem hk,List.foldl_append]
 rfl
theorem AgS.Ok.fine {width:Nat} {g:AgS} (h:g.Ok width):g.now.Fine width:=⟨h.now,h.width,h.low,h.below⟩
theorem LedS.Ok.at {width:Nat} {L:LedS} (h:L.Ok width) {a:Nat} (ha:a<16):∃ g,L.ag[a]?=some g/\g.Ok width/\L.win a=g.now/\L.floor a=g.floor:=by
 have hl:a<L.ag.length:=by rw [h.ag];exact ha
 refine ⟨L.ag[a],List.getElem?_eq_getElem hl,h.win a _ (List.getElem?_eq_getElem hl),?_,?_⟩
 ·unfold LedS.win;rw [List.getElem?_eq_getElem hl]
 ·unfold LedS.floor;rw [List.getElem?_eq_getElem hl]
theorem LedS.Ok.step {width:Nat} {L:LedS} (h:L.Ok width) {r:LRec} (hc:L.can r):(L.step r).Ok width:=by
 cases r with
 | inc n=>exact ⟨h.wide,hc.2,h.ag,h.win,h.had,h.once⟩
 | floor a n =>
  obtain ⟨ha,h1,h2⟩:=hc
  have hw:∀ b,(L.step (.floor a n)).win b=L.win b:=fun b=>by
   unfold LedS.step
   simp only
   unfold LedS.win
   simp only [List.getElem?_modify]
   by_cases hb:a=b
   ·subst hb;cases L.ag[a]? <;> simp
   ·simp [hb]
  refine ⟨h.wide,h.inc,by simp [LedS.step,h.ag],fun b g hg=>?_,fun r hr=>?_,h.once⟩
  ·simp only [LedS.step,List.getElem?_modify] at hg
   by_cases hb:a=b
   ·subst hb
    simp at hg
    obtain ⟨g0,hg0,rfl⟩:=hg
    have:=h.win a g0 hg0
    exact ⟨this.now,this.width,this.low,this.below,h2⟩
   ·simp [hb] at hg
    exact h.win b g hg
  ·obtain ⟨r1,r2,r3,r4⟩:=h.had r hr
   exact ⟨r1,r2,r3,by rw [hw];exact r4⟩
 | put a base l =>
  obtain ⟨ha,hb,hlen,hr,hin⟩:=hc
  obtain ⟨g,hg,hgo,hgw,_⟩:=h.at ha
  rw [hgw] at hin
  have hln:∀ x∈l,x.n<2305843009213693952:=fun x hx=>(hr x hx).1
  have hsk:=hgo.fine.skip (b:=base) (by omega)
  have hf:=hsk.putAll hln
  have hhad:=putAll_had hsk hln hin
  obtain ⟨hnew,hpw⟩:=allIn_new hsk hln hin
  have hskh:=(hgo.now.skip (b:=base) (by omega)).2.2.2
  have hw:∀ b,(L.step (.put a base l)).win b=if a=b then (g.now.skip base).putAll l else L.win b:=fun b=>by
   unfold LedS.step
   simp only
   unfold LedS.win
   simp only [List.getElem?_modify]
   by_cases hb:a=b
   ·subst hb;simp [hg]
   ·simp [hb]
  refine ⟨h.wide,h.inc,by simp [LedS.step,h.ag],fun b g' hg'=>?_,fun r hr'=>?_,?_⟩
  ·simp only [LedS.step,List.getElem?_modify] at hg'
   by_cases hb:a=b
   ·subst hb
    simp [hg] at hg'
    rw [<- hg']
    exact ⟨hf.ok,hf.width,hf.low,hf.below,hgo.floor⟩
   ·simp [hb] at hg'
    exact h.win b g' hg'
  ·rw [hw]
   rcases List.mem_append.1 hr' with hr' | hr'
   ·obtain ⟨r1,r2,r3,r4⟩:=h.had r hr'
    refine ⟨r1,r2,r3,?_⟩
    by_cases hb:a=r.who
    ·rw [if_pos hb,hhad,hskh]
     rw [<- hb,hgw] at r4
     exact .inl (.inl r4)
    ·rw [if_neg hb];exact r4
   ·obtain ⟨x,hx,rfl⟩:=List.mem_map.1 hr'
    refine ⟨ha,hln x hx,(hr x hx).2,?_⟩
    rw [if_pos rfl,hhad]
    exact .inr ⟨x,hx,rfl⟩
  ·show (L.recs++l.map _).Pairwise _
   refine List.pairwise_append.2 ⟨h.once,?_,fun r hr' y hy=>?_⟩
   ·rw [List.pairwise_map]
    exact hpw.imp (fun h1 h2=>h1 h2.2)
   ·obtain ⟨x,hx,rfl⟩:=List.mem_map.1 hy
    rintro ⟨e1,e2⟩
    have r4:=(h.had r hr').2.2.2
    simp only at e1 e2
    rw [e1,hgw,e2] at r4
    exact hnew x hx ((hskh _).2 (.inl r4))
theorem LedS.Ok.sync {width:Nat} {L:LedS} (h:L.Ok width):L.sync.Ok width:=by
 have hw:∀ b,L.sync.win b=L.win b:=fun b=>by
  unfold LedS.sync LedS.win
  simp only [List.getElem?_map]
  cases L.ag[b]? <;> rfl
 refine ⟨h.wide,h.inc,by simp [LedS.sync,h.ag],fun b g hg=>?_,fun r hr=>by rw [hw];exact h.had r hr,h.once⟩
 simp [LedS.sync] at hg
 obtain ⟨g0,hg0,rfl⟩:=hg
 have:=h.win b g0 hg0
 exact ⟨this.now,this.width,this.low,this.below,this.floor⟩
end Go.Proofs.YtfdmbomlkpkegaaGreat
