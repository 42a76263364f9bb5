/- Lemmas for ReceiverTells. -/
import Derived.Test.YtfdmbomlkpkegaaGreatS42
import Derived.Test.YtfdmbomlkpkegaaGreatS40
set_option maxRecDepth 100000
set_option maxHeartbeats 8000000
set_option linter.all false
namespace Go.Proofs.YtfdmbomlkpkegaaGreat
open Go Go.RowKit Go.Dr Go.Shelf
section
variable [bn:Inhabited Ban] {w wr w':World} {P R X q p r xq width j:Nat} {size:Int} {S S':S16} {o o':List Nat} {F G:Nat->Prop}
theorem Ro.do (h:Ro w P width size j wr) (hj:j<=51) (hz:1<=size) (hT:ban.top<=w.heap.size) (hP:w.heap.size<=P) (f:Vy) (hk8:f.kind<256) {fv fi:Value} (hv:Sa w fv f.runs) (hrb:∀ r∈f.runs,r.1<18446744073709551616/\r.2<18446744073709551616) (hi:Rw w.heap.size w fi f.items) (kd:Nat) (on:Bool) (kp tn:Int) (hkp:kp<=9223372036854775807) :
  Calls Tryz.prog 35 #[.pointer (some ⟨P,0,none⟩),.agg (Ty kd f fv fi on kp tn)] wr fun z w'=>z=.returned (.bool true)/\Ro w P width size (j+2) w':=by
 by_cases hk:kd % 6<=2
 ·obtain ⟨R,X,q,p,r,xq,S,o,F,G,h1,h2,h3,h4,h5,h6⟩:=h
  obtain ⟨okb,S',o',hh,ho,hout,hc⟩:=GA h1 h2 (by omega) h6 h5 (Nat.le_refl _) hT f hk8 hv hrb hi kd hk on kp tn
  refine hc.mono ?_
  rintro z w2 ⟨e,hd⟩
  exact ⟨e,hd.loop ho (hout.owes h2.okL h1.rcv.len h3) (hh.room.trans h4) h5 h6⟩
 ·refine (h.other hj hz hT hP f fv fi kd (by omega) on kp tn hkp).mono ?_
  rintro z w2 ⟨e,h2⟩
  exact ⟨e,h2.mono (Nat.le_succ _)⟩
end
end Go.Proofs.YtfdmbomlkpkegaaGreat
namespace Go.Proofs.YtfdmbomlkpkegaaGreat
open Go Go.RowKit Go.Dr Go.Shelf
theorem win_sync (L:Xs) (a:Nat):L.sync.win a=L.win a:=by
 unfold Xs.win Xs.sync
 rw [List.getElem?_map]
 cases L.ag[a]? <;> rfl
theorem U1.same [bn:Inhabited Ban] {width j:Nat} {S S2:S16} (h:U1 width S S2) (ok:Ue width j S) (hc:S.cnt=S.ts.length):S2.L.inc=S.L.inc+1/\∀ a,S2.L.win a=S.L.win a/\S2.L.floor a=S.L.floor a:=by
 obtain ⟨k1,h1,h2,_,hL,_⟩:=h
 have e:k1=S.ts.length:=by omega
 subst e
 rw [List.take_length] at hL
 have hn:=ok.tls.now
 have hi:=ok.tls.inc
 refine ⟨by rw [hL,hi];rfl,fun a=>?_⟩
 rw [hL]
 have e1:((told width S.ts).step (.inc ((told width S.ts).inc+1))).sync.win a=(told width S.ts).win a:=win_sync _ a
 have e2:((told width S.ts).step (.inc ((told width S.ts).inc+1))).sync.floor a=(told width S.ts).floor a:=Av _ a
 rw [e1,e2,Xs.win_now,Xs.win_now,Xs.floor_now,Xs.floor_now,hn]
 exact ⟨rfl,rfl⟩
structure Told17 (L:Xs) (x:Vy) (a:Nat):Prop where
 ag:x.agent=(a:Int)
 lt:a<16
 cum:x.cum=(L.win a).low
 lim:x.limit=(L.win a).low+(L.win a).width
 epo:x.epoch=L.floor a
 inc:x.inc<L.inc
 kind:x.kind<256
 few:x.runs.length<=32
 had:∀ r∈x.runs,r.1<=r.2/\r.2<4611686018427387904/\∀ n,r.1<=n->n<=r.2->(L.win a).had n=true
theorem Nu.told [bn:Inhabited Ban] {width j:Nat} {S S' S2:S16} {o:List Nat} {l:List Vy} (h:Nu S o l S') (ok':Ue width j S') (how:Nj S.L o) (hk:S.L.Ok width) (hc:U1 width S' S2):∀ x∈l,∃ a,Told17 S2.L x a:=by
 rcases h with ⟨_,rfl,_⟩ | ⟨_,rfl,rfl⟩
 ·intro x hx
  simp at hx
 ·intro x hx
  obtain ⟨hinc,hsame⟩:=hc.same ok' rfl
  unfold Sw at hx
  obtain ⟨a,ha,rfl⟩:=List.mem_map.1 hx
  obtain ⟨ha1,ha2⟩:=List.mem_filter.1 ha
  have ha3:=List.mem_range.1 ha1
  have ha4:o.getD a 0≠0:=by simpa using ha2
  have e1:S2.L.win a=S.L.win a:=(hsame a).1.trans (win_sync S.L a)
  have e2:S2.L.floor a=S.L.floor a:=(hsame a).2.trans (Av S.L a)
  have e3:S2.L.inc=S.L.inc+1:=hinc
  obtain ⟨g,hg,hgo,hgw,hgf⟩:=hk.at ha3
  have hw:(S.L.win a).Ok:=by rw [hgw];exact hgo.now
  refine ⟨a,rfl,ha3,by rw [e1];rfl,by rw [e1];rfl,by rw [e2];rfl,?_,?_,?_,fun r hr=>?_⟩
  ·show S.L.inc<S2.L.inc
   omega
  ·show o.getD a 0<256
   have:=(how a ha4).2
   omega
  ·show ((S.L.win a).set.take 32).length<=32
   rw [List.length_take]
   omega
  ·have hm:r∈(S.L.win a).set:=List.mem_of_mem_take hr
   have hrun:=hw.set.run r hm
   refine ⟨hrun.1,(hw.above r.2 ⟨r,hm,hrun.1,Nat.le_refl _⟩).2.2,fun n h1 h2=>?_⟩
   rw [e1]
   exact (hw.had n).2 (.inr ⟨r,hm,h1,h2⟩)
end Go.Proofs.YtfdmbomlkpkegaaGreat
namespace Go.Proofs.YtfdmbomlkpkegaaGreat
open Go Go.RowKit Go.Dr Go.Shelf
theorem tells17_walk [bn:Inhabited Ban] {w:World} (hT:ban.top<=w.heap.size) (wd sg:Nat) {v2:Value} {acts:List Dj} (hv:Gu w.heap.size 13 (Cv w.heap.size w) v2 acts) :
  Calls Tryz.prog 6 #[.int .u16 wd,.int .u16 sg,v2] w fun e w'=>e=.returned (.bool true)/\Xy No w w':=by
 have hv0:=hv
 obtain ⟨ao,cap,rfl,hac,hcm,_⟩:=hv0
 have haw:=Lp (w:=w) hT
 have hli:(acts.length:Int)<=9223372036854775807:=by unfold maxLen at hcm;omega
 have HT:=Lib.hid (A4 hT hv trivial hli)
 clear hT hv hac hcm hli
 go_enter Tryz.func6,Tryz.ntmps6
 go_upto_region 3 with (go_at_call 28;refine haw.mono ?_;rintro e w1 ⟨rfl,k1⟩)
 clear haw
 have hop:=Dc (base:=w.heap.size) (w:=w1) wd sg k1.size (Nat.le_trans HT.out.1 k1.size)
 go_upto_region 6 with (go_at_call 29;refine hop.mono ?_;rintro e w2 ⟨P,R,X,q,p,r,xq,S,F,G,rfl,hP,hok,hfr,_,_,hft,k2⟩)
 clear hop
 obtain ⟨width,hwidth⟩:∃ n:Nat,n=1+wd % 30:=⟨_,rfl⟩
 obtain ⟨size,hsize⟩:∃ n:Nat,n=1+sg % 300:=⟨_,rfl⟩
 rw [<- hwidth,<- hsize] at hP
 rw [<- hwidth] at hok
 have hz:(1:Int)<=(size:Int):=by omega
 have hPb:w.heap.size<=P:=Nat.le_trans k1.size (hft P (.inl rfl))
 have HI:=Lib.hid (A3 (Ro.start hP hok hfr.2.1 (Fq _) (fun b hb=>Nat.le_trans k1.size (hft b hb)) (k1.then k2)) hz hPb)
 clear hP hok hfr hft k1 k2 hwidth hsize hz hPb
 go_wp2_with fail
 go_loopw [30] (fun v30 wr=>∃ i:Nat,v30=.int .i64 (i:Nat)/\i<=acts.length/\Ro w P width size (1+2*min i 25) wr) (fun v30 _=>acts.length - (intOf v30).toNat)
 case atStart=>exact ⟨0,rfl,Nat.zero_le _,HI.out.1⟩
 case round =>
  obtain ⟨i,rfl,hi,hW⟩:=hrel
  have hli:=HT.out.2.2.2
  by_cases hlt:i<acts.length
  ·have hx:acts[i]?=some acts[i]:=List.getElem?_eq_getElem hlt
   generalize acts[i]=a at hx
   obtain ⟨g,o,hgo,hA⟩:=Gu.at HT.out.2.1 hx
   subst hgo
   obtain ⟨fv,fi,hfv,hfi,hc⟩:=hA.cells
   obtain ⟨fo,fc,rfl,hfl,hfm⟩:=hfv.form
   obtain ⟨io,ic,rfl,hil,him⟩:=hfi.form
   have hkw:Xy No w wr:=hW.keep
   have c0:=hkw.cell (hc 0 (by decide)) (fun e=>e)
   have c1:=hkw.cell (hc 1 (by decide)) (fun e=>e)
   have c2:=hkw.cell (hc 2 (by decide)) (fun e=>e)
   have c3:=hkw.cell (hc 3 (by decide)) (fun e=>e)
   have c4:=hkw.cell (hc 4 (by decide)) (fun e=>e)
   have c5:=hkw.cell (hc 5 (by decide)) (fun e=>e)
   have c6:=hkw.cell (hc 6 (by decide)) (fun e=>e)
   have c7:=hkw.cell (hc 7 (by decide)) (fun e=>e)
   have c8:=hkw.cell (hc 8 (by decide)) (fun e=>e)
   have c9:=hkw.cell (hc 9 (by decide)) (fun e=>e)
   have c10:=hkw.cell (hc 10 (by decide)) (fun e=>e)
   have c11:=hkw.cell (hc 11 (by decide)) (fun e=>e)
   have c12:=hkw.cell (hc 12 (by decide)) (fun e=>e)
   simp [Ty] at c0 c1 c2 c3 c4 c5 c6 c7 c8 c9 c10 c11 c12
   have hii:(i:Int)<(acts.length:Int):=by omega
   have hin:IntKind.i64.wrap ((i:Int)+1)=((i+1:Nat):Int):=by rw [IntKind.wrap_i64];omega
   have hk8:=hA.kind
   have hnum:=hA.num
   have hkept:=hA.kept
   obtain ⟨cs,hcs⟩:∃ cs:Array Value,cs=Ty a.kd a.f (.slice fo a.f.runs.length fc) (.slice io a.f.items.length ic) a.on a.keep a.torn:=⟨_,rfl⟩
   have kA:=(Xy.refl No wr).alloc (.cells cs 85)
   have hbA:=Qy wr (.cells cs 85)
   have hWA:=hW.no kA
   have hm:Int.tmod (a.kd:Int) 6=((a.kd % 6:Nat):Int):=rfl
   have HR:=Lib.hid (A8 hWA hfv hfi hk8 hnum hkept hlt hkw)
   clear hW hA hc hi hx kA hfv hfi hk8 hnum hkept hil him hfl hfm hWA hkw
   by_cases h25:25<=i
   ·have q1:(25:Int)<=(i:Int):=by omega
    have HX:=Lib.hid (HR.out.2.2.2.2.2.2.2.alloc (.cells cs 85))
    rw [hcs] at HX
    unfold Ty at HX
    clear h25 hlt hm hbA hcs HR
    go_wp2_with fail
    go_ret
    exact ⟨rfl,HX.out⟩
   ·have q1:¬(25:Int)<=(i:Int):=by omega
    have hm25:min i 25=i:=by omega
    have hm26:min (i+1) 25=i+1:=by omega
    rw [hm25] at HR
    obtain ⟨W,hW⟩:∃ W,W=wr.alloc (.cells cs 85):=⟨_,rfl⟩
    rw [<- hW] at hbA HR
    rw [hcs] at hbA hW
    have hws:wr.heap.size<W.heap.size:=by rw [hW];simp
    obtain ⟨b12,hb12⟩:∃ b,b=wr.heap.size:=⟨_,rfl⟩
    have hbn:=HR.out.2.2.2.2.2.2.2.size
    rw [<- hb12] at hbA hws hbn
    have kwW:Xy No w W:=HR.out.1.keep
    have d0:=Qq hbA 0
    have d1:=Qq hbA 1
    have d2:=Qq hbA 2
    have d3:=Qq hbA 3
    have d4:=Qq hbA 4
    have d5:=Qq hbA 5
    have d6:=Qq hbA 6
    have d7:=Qq hbA 7
    have d8:=Qq hbA 8
    have d9:=Qq hbA 9
    have d10:=Qq hbA 10
    have d11:=Qq hbA 11
    have d12:=Qq hbA 12
    simp [Ty] at d0 d1 d2 d3 d4 d5 d6 d7 d8 d9 d10 d11 d12
    have HM:=Lib.hid (A5 hlt hm26 hbn hws kwW)
    have HB12:=Lib.hid hbA
    unfold Ty at hW
    clear h25 hlt hcs hm25 hm26 hbA hbn hws kwW
    go_upto_region 10 with fail
    rw [<- hW,<- hb12]
    clear hW hb12 c0 c1 c2 c3 c4 c5 c6 c7 c8 c9 c10 c11 c12
    by_cases hk:a.kd % 6=3
    ·have q2:(a.kd:Int) % 6=3:=by omega
     obtain ⟨R,X,q,p,r,xq,S,o,F,G,h1,h2,h3,h4,h5,h6⟩:=HR.out.1
     have hTW:=Nat.le_trans HT.out.1 h6.size
     have hj:1+2*i<=50:=by omega
     obtain ⟨l,S',htk,ok',hck⟩:=VH h1 h2 (by omega) h3 h6.size hTW
     obtain ⟨k,ss2,ts2,d2,x2,L2,hbo,hcr⟩:=ok'.crash (base:=w.heap.size) (by omega) HI.out.2.1 (htk.room.trans h4) 0 0
     obtain ⟨S2,hS2⟩:∃ S2:S16,S2=⟨ss2,ts2,d2.sync,x2.sync,L2.sync,k⟩:=⟨_,rfl⟩
     rw [<- hS2] at hcr
     have htold:=htk.told ok' h3 h2.okL hcr
     have HS2:=Lib.hid hS2
     have hl16:=(htk.all h2.okL h3).1
     have HQ:=Lib.hid (A6 h1 h2 h3 h4 h5 h6)
     have HB:=Lib.hid (A7 hbo ok' htold hl16 (htk.room.trans h4) hTW hj)
     clear h1 h2 h3 h4 h5 h6 hbo hcr htk ok' htold hl16 hTW hj hk hm hS2
     go_upto_region 14 with (go_at_call 36;refine hck.mono ?_;rintro z w3 ⟨v3,F3,G3,rfl,hfr,h3,k3,ho3,ho4⟩;obtain ⟨fo3,fc3,rfl,_,_⟩:=hfr.form)
     clear hck
     have hd:QC w.heap.size W P R X q p r xq width size S' (List.replicate 16 0) F G w3:=⟨F3,G3,h3,k3,ho3,ho4⟩
     have hloop:=hd.loop HB.out.2.1 (Fq _) HB.out.2.2.2.2.1 HQ.out.2.2.2.2.1 HQ.out.2.2.2.2.2
     have kw3:=hloop.keep
     have hsW3:P<w3.heap.size:=Nat.lt_of_lt_of_le (Qt HQ.out.1.blk) k3.size
     have p0:=Qq h3.blk 0
     have p2:=Qq h3.blk 2
     have p3:=Qq h3.blk 3
     simp at p0 p2 p3
     have r0:=h3.rcv.led
     have hrl:=Rl h3.rcv
     obtain ⟨g3,hlg,hdk⟩:=h3.logOf
     have hlg:=hlg w3 (Xy.refl _ _)
     have hdk:=hdk w3 (Xy.refl _ _)
     have hcd:=h3.led.crashD HB.out.2.1 (by have:=HB.out.2.2.2.2.2.2;omega) kw3.size 0 0
     have H3:=Lib.hid (A3 hloop hfr kw3)
     clear h3 hd hloop hfr kw3 k3 ho3 ho4
     go_upto_region 17 with (first
      | (go_at_call 34;refine hrl.mono ?_;rintro e w4 ⟨rfl,e4⟩;have e4:=e4.symm;subst e4)
      | (go_at_call 16;refine hlg.mono ?_;rintro e w4 ⟨rfl,e4⟩;have e4:=e4.symm;subst e4)
      | (go_at_call 17;refine hdk.mono ?_;rintro e w4 ⟨rfl,e4⟩;have e4:=e4.symm;subst e4)
      | (go_at_call 18;refine hcd.mono ?_;rintro e w4 ⟨p4,n4,s4,wv4,rfl,hD4,k4,hn4⟩))
     clear hrl hlg hdk hcd
     have hfull:=Tw hD4 false
     have p0:=k4.cell p0 (fun e=>e)
     have p2:=k4.cell p2 (fun e=>e)
     have p3:=k4.cell p3 (fun e=>e)
     have H4:=Lib.hid (A2 k4 hn4)
     clear k4 hn4 hD4
     go_upto_region 18 with (go_at_call 19;refine hfull.mono ?_;rintro e w5 ⟨rfl,n5,s5,wv5,hD5,k5,hn5⟩)
     clear hfull
     have k35:Xy No w3 w5:=H4.out.1.absorb k5 H4.out.2
     have p2:=k5.cell p2 (fun e=>by have h:w3.heap.size<=P:=H4.out.2 _ e;omega)
     have p3:=k5.cell p3 (fun e=>by have h:w3.heap.size<=P:=H4.out.2 _ e;omega)
     have hopen:=HB.out.1.led0 hD5 (H3.out.2.2.then k35).size (Nat.le_trans HT.out.1 (H3.out.2.2.then k35).size)
     have hn5w:∀ b,foot p4 n5 s5 wv5 b->w3.heap.size<=b:=fun b hb=>by
      rcases hn5 b hb with h | h
      ·exact H4.out.2 b h
      ·exact Nat.le_trans H4.out.1.size h
     have H5:=Lib.hid (A2 k35 hn5w)
     clear k35 hn5w hD5 k5 hn5
     go_upto_region 19 with (go_at_call 20;refine hopen.mono ?_;rintro e w6 ⟨q2',F2,rfl,hq2,hL6,k6,ho6⟩)
     clear hopen
     have k36:Xy No w3 w6:=H5.out.1.absorb k6 H5.out.2
     have htold:=HB.out.2.2.1
     rw [<- HS2.out] at hL6
     have H6:=Lib.hid (A5 (H3.out.1.no k36) (H3.out.2.1.no k36) hL6 htold HB.out.2.2.2.1)
     clear k36 hL6 htold hq2 k6 ho6 p0 p2 p3 r0 hsW3
     have hli6:(l.length:Int)<=16:=by have:=H6.out.2.2.2.2;omega
     go_wp2_with fail
     go_loopw [75] (fun v75 wx=>∃ m:Nat,v75=.int .i64 (m:Nat)/\m<=l.length/\Xy No w6 wx) (fun v75 _=>l.length - (intOf v75).toNat)
     case atStart=>exact ⟨0,rfl,Nat.zero_le _,Xy.refl _ _⟩
     case round =>
      obtain ⟨m,rfl,hml',kx⟩:=hrel
      by_cases hml:m<l.length
      ·have hx:l[m]?=some l[m]:=List.getElem?_eq_getElem hml
       generalize l[m]=x at hx
       obtain ⟨ag,ht⟩:=H6.out.2.2.2.1 x (List.mem_of_getElem? hx)
       obtain ⟨gx,ux,ex,hux,_,hcx⟩:=(H6.out.2.1.no kx).at' hx
       obtain ⟨uo,uc,rfl,_,hum⟩:=hux.form
       subst ex
       have a0:=hcx 0 (.int .u8 x.kind) rfl
       have a1:=hcx 1 (.int .i64 x.agent) rfl
       have a2:=hcx 2 (.int .u64 x.epoch) rfl
       have a3:=hcx 3 (.int .u64 x.inc) rfl
       have a4:=hcx 4 (.int .u64 x.base) rfl
       have a5:=hcx 5 (.int .u64 x.cum) rfl
       have a6:=hcx 6 (.int .u64 x.limit) rfl
       have a7:=hcx 7 (.slice uo x.runs.length uc) rfl
       have a8:=hcx 8 (.slice none 0 0) rfl
       rw [Nat.add_zero] at a0
       have hmi:(m:Int)<(l.length:Int):=by omega
       have hmin:IntKind.i64.wrap ((m:Int)+1)=((m+1:Nat):Int):=by rw [IntKind.wrap_i64];omega
       obtain ⟨WA,hWA⟩:∃ WA,WA=wr.alloc (.cells #[.int .u8 x.kind,.int .i64 x.agent,.int .u64 x.epoch,.int .u64 x.inc,.int .u64 x.base,.int .u64 x.cum,.int .u64 x.limit,.slice uo x.runs.length uc,.slice none 0 0] 69):=⟨_,rfl⟩
       have kA:Xy No wr WA:=by rw [hWA];exact (Xy.refl _ _).alloc _
       have hA:WA.heap[wr.heap.size]?=some (.cells #[.int .u8 x.kind,.int .i64 x.agent,.int .u64 x.epoch,.int .u64 x.inc,.int .u64 x.base,.int .u64 x.cum,.int .u64 x.limit,.slice uo x.runs.length uc,.slice none 0 0] 69 (0,0)):=by rw [hWA];exact Qy _ _
       have kxA:=kx.then kA
       have hw:=H6.out.2.2.1.winOf ht.lt
       obtain ⟨y,hy⟩:∃ y,y=S2.L.win ag:=⟨_,rfl⟩
       obtain ⟨lim,hlim⟩:∃ lim,lim=y.low+y.width:=⟨_,rfl⟩
       have hlimE:x.limit=lim:=by rw [hlim,hy];exact ht.lim
       have hwin:=hw.2 WA kxA
       rw [<- hy] at hwin
       have hHad:=ht.had
       rw [<- hy] at hHad
       have hcumE:x.cum=y.low:=by rw [hy];exact ht.cum
       have hwok:y.Ok:=by rw [hy];exact hw.1
       rw [ht.ag,ht.epo,hcumE,hlimE] at hA hWA
       rw [ht.ag] at a1
       rw [ht.epo] at a2
       rw [hcumE] at a5
       rw [hlimE] at a6
       have HX:=Lib.hid (A8 kxA hml (hux.no kA) hHad hwok ht hlim hum)
       have HXA:=Lib.hid hA
       have b1:=Qq hA 1
       simp at b1
       clear kx hml hux hcx hx kA kxA hHad hwok ht hw hA hy hcumE hlim hum
       go_upto_region 24 with fail
       rw [<- hWA]
       clear hWA a0 a1 a2 a3 a4 a5 a6 a7 a8
       go_upto_region 25 with (go_at_call 37;refine hwin.mono ?_;rintro e w8 ⟨u8,rfl,hu8,k8⟩;obtain ⟨wo,wc,rfl,hwr⟩:=hu8.form)
       clear hwin hu8
       obtain ⟨WB,hWB⟩:∃ WB,WB=w8.alloc (.cells #[.int .u64 y.low,.int .u64 y.width,.slice wo y.set.length wc] 92):=⟨_,rfl⟩
       have kB:Xy No w8 WB:=by rw [hWB];exact (Xy.refl _ _).alloc _
       have hB:WB.heap[w8.heap.size]?=some (.cells #[.int .u64 y.low,.int .u64 y.width,.slice wo y.set.length wc] 92 (0,0)):=by rw [hWB];exact Qy _ _
       rw [<- hWB]
       clear hWB
       have hAB:=(k8.then kB).heap HXA.out (fun e=>e)
       have c1:=Qq hAB 1
       have c2:=Qq hAB 2
       have c3:=Qq hAB 3
       have c5:=Qq hAB 5
       have c6:=Qq hAB 6
       have c7:=Qq hAB 7
       have z0:=Qq hB 0
       have z1:=Qq hB 1
       have z2:=Qq hB 2
       simp at c1 c2 c3 c5 c6 c7 z0 z1 z2
       have kxB:=HX.out.1.then (k8.then kB)
       have hwv:∀ Y,Xy No WB Y->Nf Y (.agg #[.int .u64 y.low,.int .u64 y.width,.slice wo y.set.length wc]) y:=fun Y k=>⟨_,rfl,(hwr.no kB).no k⟩
       have hlm:=HX.out.2.2.2.2.2.2.1
       have hlimS:∀ Y,Xy No WB Y->Calls Tryz.prog 38 #[.agg #[.int .u64 y.low,.int .u64 y.width,.slice wo y.set.length wc]] Y fun e w'=>e=.returned (.int .u64 (lim:Nat))/\Xy No Y w':=fun Y k=>by
        rw [hlm]
        exact Dp (hwv Y k) HX.out.2.2.2.2.1.pre
       have hi1:¬((S2.L.inc:Int)<=(x.inc:Int)):=by have:=HX.out.2.2.2.2.2.1.inc;omega
       have hi2:decide ((S2.L.inc:Int)<=(x.inc:Int))=false:=decide_eq_false hi1
       have HY:=Lib.hid (A7 kxB hlimS (fun Y (k:Xy No WB Y)=>(H6.out.2.2.1.no (kxB.then k)).floorOf HX.out.2.2.2.2.2.1.lt) (fun Y (k:Xy No WB Y)=>(H6.out.2.2.1.no (kxB.then k)).incOf) hwv (HX.out.2.2.1.no (k8.then kB)) c7)
       have kd:Xy No WB WB.drew:=(Xy.refl _ _).drew
       clear kxB hwv hlimS hB hAB hwr k8 kB hlm c7 b1
       refine Vr (fun w'=>Xy No WB w') [([0,1,2,3,4,5,6,7,8],[9]),([10,11,12,13,14,15,16,17],[18]),([19,20,21,22,23,24],[25]),([26,27],[])] (by kernel_rfl) (by kernel_rfl) (fun _ _ _ _ _ h=>h) kd ?_
       iterate 6 (refine Qk (v:=?_) rfl rfl rfl ?_ ?_;rotate_left;focus (
        intro w' hS
        have g0:=hS.cell c1 (fun e=>e)
        have g1:=hS.cell c2 (fun e=>e)
        have g2:=hS.cell c3 (fun e=>e)
        have g3:=hS.cell c5 (fun e=>e)
        have g4:=hS.cell c6 (fun e=>e)
        have g5:=hS.cell z0 (fun e=>e)
        have g6:=hS.cell z1 (fun e=>e)
        have g7:=hS.cell z2 (fun e=>e)
        go_simp
        try with_reducible rfl))
       iterate 3 (refine Qe (v:=?_) rfl rfl (by first | kernel_rfl | simp [Region.wanted,yielded,Act.put,undef]) ?_ ?_;rotate_left;focus (
        intro w' hS
        have g0:=hS.cell c1 (fun e=>e)
        have g1:=hS.cell c2 (fun e=>e)
        have g2:=hS.cell c3 (fun e=>e)
        have g3:=hS.cell c5 (fun e=>e)
        have g4:=hS.cell c6 (fun e=>e)
        have g5:=hS.cell z0 (fun e=>e)
        have g6:=hS.cell z1 (fun e=>e)
        have g7:=hS.cell z2 (fun e=>e)
        go_simp
        try with_reducible rfl))
       refine Qj ?_
       refine Za rfl (by first | kernel_rfl | simp [Region.wanted,yielded,Act.put,undef]) (fun K hK=>?_)
       go_simp
       refine (HY.out.2.1 _ kd).mono ?_
       rintro e w9 ⟨rfl,k9⟩
       have k9:=kd.then k9
       refine hK _ _ k9 ?_
       clear hK K
       refine Qh ?_
       iterate 1 (refine Qe (v:=?_) rfl rfl (by first | kernel_rfl | simp [Region.wanted,yielded,Act.put,undef]) ?_ ?_;rotate_left;focus (
        intro w' hS
        go_simp
        try with_reducible rfl))
       iterate 2 (refine Qk (v:=?_) rfl rfl rfl ?_ ?_;rotate_left;focus (
        intro w' hS
        go_simp
        try with_reducible rfl))
       iterate 5 (refine Qe (v:=?_) rfl rfl (by first | kernel_rfl | simp [Region.wanted,yielded,Act.put,undef]) ?_ ?_;rotate_left;focus (
        intro w' hS
        have g0:=hS.cell c1 (fun e=>e)
        have g1:=hS.cell c2 (fun e=>e)
        have g2:=hS.cell c3 (fun e=>e)
        have g3:=hS.cell c5 (fun e=>e)
        have g4:=hS.cell c6 (fun e=>e)
        have g5:=hS.cell z0 (fun e=>e)
        have g6:=hS.cell z1 (fun e=>e)
        have g7:=hS.cell z2 (fun e=>e)
        go_simp
        try with_reducible rfl))
       refine Qj ?_
       refine Za rfl (by first | kernel_rfl | simp [Region.wanted,yielded,Act.put,undef]) (fun K hK=>?_)
       go_simp
       refine (HY.out.2.2.1 _ k9).mono ?_
       rintro e w10 ⟨rfl,e10⟩
       have e10:=e10.symm
       subst e10
       refine hK _ _ k9 ?_
       clear hK K
       refine Qh ?_
       iterate 1 (refine Qe (v:=?_) rfl rfl (by first | kernel_rfl | simp [Region.wanted,yielded,Act.put,undef]) ?_ ?_;rotate_left;focus (
        intro w' hS
        go_simp
        try with_reducible rfl))
       iterate 2 (refine Qk (v:=?_) rfl rfl rfl ?_ ?_;rotate_left;focus (
        intro w' hS
        go_simp
        try with_reducible rfl))
       iterate 3 (refine Qe (v:=?_) rfl rfl (by first | kernel_rfl | simp [Region.wanted,yielded,Act.put,undef]) ?_ ?_;rotate_left;focus (
        intro w' hS
        have g0:=hS.cell c1 (fun e=>e)
        have g1:=hS.cell c2 (fun e=>e)
        have g2:=hS.cell c3 (fun e=>e)
        have g3:=hS.cell c5 (fun e=>e)
        have g4:=hS.cell c6 (fun e=>e)
        have g5:=hS.cell z0 (fun e=>e)
        have g6:=hS.cell z1 (fun e=>e)
        have g7:=hS.cell z2 (fun e=>e)
        go_simp
        try with_reducible rfl))
       refine Qj ?_
       refine Za rfl (by first | kernel_rfl | simp [Region.wanted,yielded,Act.put,undef]) (fun K hK=>?_)
       go_simp
       refine (HY.out.2.2.2.1 _ k9).mono ?_
       rintro e w10 ⟨rfl,e10⟩
       have e10:=e10.symm
       subst e10
       refine hK _ _ k9 ?_
       clear hK K
       refine Qh ?_
       iterate 1 (refine Qe (v:=?_) rfl rfl (by first | kernel_rfl | simp [Region.wanted,yielded,Act.put,undef]) ?_ ?_;rotate_left;focus (
        intro w' hS
        go_simp
        try with_reducible rfl))
       iterate 1 (refine Qk (v:=?_) rfl rfl rfl ?_ ?_;rotate_left;focus (
        intro w' hS
        go_simp
        try with_reducible rfl))
       refine Qj ?_
       refine Qh ?_
       refine Bx ?_
       go_simp
       have hz9:=k9
       have c7:=hz9.cell HY.out.2.2.2.2.2.2 (fun e=>e)
       have z0:=hz9.cell z0 (fun e=>e)
       have z1:=hz9.cell z1 (fun e=>e)
       have z2:=hz9.cell z2 (fun e=>e)
       have hri:(x.runs.length:Int)<=32:=by have:=HX.out.2.2.2.2.2.1.few;omega
       clear c1 c2 c3 c5 c6 hi1 hi2
       go_wp2_with fail
       go_loopw [114] (fun v114 wx=>∃ n:Nat,v114=.int .i64 (n:Nat)/\n<=x.runs.length/\Xy No w9 wx) (fun v114 _=>x.runs.length - (intOf v114).toNat)
       case atStart=>exact ⟨0,rfl,Nat.zero_le _,Xy.refl _ _⟩
       case round =>
        obtain ⟨n,rfl,hn',kn⟩:=hrel
        by_cases hnl:n<x.runs.length
        ·have hxn:x.runs[n]?=some x.runs[n]:=List.getElem?_eq_getElem hnl
         generalize x.runs[n]=rr at hxn
         obtain ⟨hr0,hr2,hrh⟩:=HX.out.2.2.2.1 rr (List.mem_of_getElem? hxn)
         obtain ⟨gr,og,er,hrc⟩:=(HY.out.2.2.2.2.2.1.no (hz9.then kn)).in'.row (fun e=>by rw [e] at hnl;simp at hnl)
         subst er
         obtain ⟨t0,t1⟩:=hrc n rr hxn
         have hni:(n:Int)<(x.runs.length:Int):=by omega
         have hnin:IntKind.i64.wrap ((n:Int)+1)=((n+1:Nat):Int):=by rw [IntKind.wrap_i64];omega
         obtain ⟨WD,hWD⟩:∃ WD,WD=wr.alloc (.cells #[.int .u64 rr.1,.int .u64 rr.2] 96):=⟨_,rfl⟩
         have kD:Xy No wr WD:=by rw [hWD];exact (Xy.refl _ _).alloc _
         have hD:WD.heap[wr.heap.size]?=some (.cells #[.int .u64 rr.1,.int .u64 rr.2] 96 (0,0)):=by rw [hWD];exact Qy _ _
         have s0:=Qq hD 0
         have s1:=Qq hD 1
         simp at s0 s1
         have knD:=kn.then kD
         have z0:=knD.cell z0 (fun e=>e)
         have z1:=knD.cell z1 (fun e=>e)
         have z2:=knD.cell z2 (fun e=>e)
         have HN:=Lib.hid (A5 knD hnl hr0 hr2 hrh)
         clear kn kD hD knD hnl hr0 hr2 hrh hrc hxn hn'
         go_upto_region 30 with fail
         rw [<- hWD]
         clear hWD t0 t1
         go_wp2_with fail
         go_loopw [20] (fun v20 wx=>∃ c:Nat,v20=.int .u64 (c:Nat)/\rr.1<=c/\c<=rr.2+1/\Xy No WD wx) (fun v20 _=>rr.2+1 - (intOf v20).toNat)
         case atStart=>exact ⟨rr.1,rfl,Nat.le_refl _,by have:=HN.out.2.2.1;omega,Xy.refl _ _⟩
         case round =>
          obtain ⟨c,rfl,hc1,hc2,kc⟩:=hrel
          have s1:=kc.cell s1 (fun e=>e)
          by_cases hcl:c<=rr.2
          ·have hci:(c:Int)<=(rr.2:Int):=by omega
           have hcin:IntKind.u64.wrap ((c:Int)+1)=((c+1:Nat):Int):=by have:=HN.out.2.2.2.1;rw [IntKind.wrap_u64];omega
           have hhad:=SL (HY.out.2.2.2.2.1 wr ((hz9.then HN.out.1).then kc)) HX.out.2.2.2.2.1.pre c
           rw [HN.out.2.2.2.2 c hc1 hcl] at hhad
           have z0:=kc.cell z0 (fun e=>e)
           have z1:=kc.cell z1 (fun e=>e)
           have z2:=kc.cell z2 (fun e=>e)
           have HC:=Lib.hid (A4 kc hc1 hc2 hcl)
           clear kc hc1 hc2 hcl
           go_wp2_with (go_at_call 40;refine hhad.mono ?_;rintro e w12 ⟨rfl,k12⟩)
           go_roundw
           case rel=>exact ⟨c+1,by go_num,by have:=HC.out.2.1;omega,by have:=HC.out.2.2.2;omega,HC.out.1.then k12⟩
           case measure=>have:=HC.out.2.2.2;simp [intOf];omega
          ·have hci:¬(c:Int)<=(rr.2:Int):=by omega
           have HC:=Lib.hid kc
           clear kc hc1 hc2 hcl
           go_wp2_with fail
           go_roundw
           case rel=>exact ⟨n+1,by go_num,HN.out.2.1,HN.out.1.then HC.out⟩
           case measure=>have:=HN.out.2.1;simp [intOf];omega
        ·have hni:¬(n:Int)<(x.runs.length:Int):=by omega
         have HN:=Lib.hid kn
         clear kn hnl hn'
         go_wp2_with fail
         go_roundw
         case rel=>exact ⟨m+1,by go_num,HX.out.2.1,HY.out.1.then (hz9.then HN.out)⟩
         case measure=>have:=HX.out.2.1;simp [intOf];omega
      ·have hmi:¬(m:Int)<(l.length:Int):=by omega
       have HX:=Lib.hid kx
       clear kx hml hml'
       go_wp2_with fail
       go_roundw
       case rel=>exact ⟨i+1,by go_num,HM.out.1,by rw [HM.out.2.1];exact (H6.out.1.no HX.out).mono (by omega)⟩
       case measure=>have:=HM.out.1;simp [intOf];omega
    ·have q2:¬(a.kd:Int) % 6=3:=by omega
     have hdo:=HR.out.1.do (by have:=HM.out.1;omega) HI.out.2.1 HT.out.1 HI.out.2.2 a.f HR.out.2.2.2.1 HR.out.2.1 HR.out.2.2.2.2.1 HR.out.2.2.1 a.kd a.on a.keep a.torn HR.out.2.2.2.2.2.1
     unfold Ty at hdo
     clear hk hm
     go_wp2_with (go_at_call 35;refine hdo.mono ?_;rintro e w3 ⟨rfl,hW3⟩;have H3:=Lib.hid hW3;clear hW3)
     go_roundw
     case rel=>exact ⟨i+1,by go_num,HM.out.1,by rw [HM.out.2.1];exact H3.out.mono (by omega)⟩
     case measure=>have:=HM.out.1;simp [intOf];omega
  ·have hii:¬(i:Int)<(acts.length:Int):=by omega
   have HX:=Lib.hid hW.keep
   clear hW hi hlt
   go_wp2_with fail
   go_ret
   exact ⟨rfl,HX.out⟩
end Go.Proofs.YtfdmbomlkpkegaaGreat
