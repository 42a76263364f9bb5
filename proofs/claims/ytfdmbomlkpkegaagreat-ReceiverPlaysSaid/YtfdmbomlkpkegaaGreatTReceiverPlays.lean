/- Lemmas for ReceiverPlays. -/
import Derived.Test.YtfdmbomlkpkegaaGreatS42
import Derived.Test.YtfdmbomlkpkegaaGreatS29
import Derived.Test.YtfdmbomlkpkegaaGreatS40
set_option maxRecDepth 100000
set_option maxHeartbeats 8000000
set_option linter.all false
namespace Go.Proofs.YtfdmbomlkpkegaaGreat
open Go Go.RowKit Go.Dr Go.Shelf
section
variable [bn:Inhabited Ban] {w wr w':World} {P R X q p r xq width j:Nat} {size:Int} {S S':S16} {o o':List Nat} {F G:Nat->Prop}
theorem Ro.do (h:Ro w P width size j wr) (hj:j<=51) (hz:1<=size) (hT:ban.top<=w.heap.size) (hP:w.heap.size<=P) (f:Vy) (hk8:f.kind<256) {fv fi:Value} (hv:Sa w fv f.runs) (hrb:∀ r∈f.runs,r.1<18446744073709551616/\r.2<18446744073709551616) (hi:Rw w.heap.size w fi f.items) (kd:Nat) (on:Bool) (kp tn:Int) (hkp:kp<=9223372036854775807) :
  Calls Tryz.prog 35 #[.pointer (some ⟨P,0,none⟩),.agg (Ty kd f fv fi on kp tn)] wr fun z w'=>z=.returned (.bool true)/\Ro w P width size (j+2) w':=by
 by_cases hk:kd % 6<=2
 ·obtain ⟨R,X,q,p,r,xq,S,o,F,G,h1,h2,h3,h4,h5,h6⟩:=h
  obtain ⟨okb,S',o',hh,ho,hout,hc⟩:=GA h1 h2 (by omega) h6 h5 (Nat.le_refl _) hT f hk8 hv hrb hi kd hk on kp tn
  refine hc.mono ?_
  rintro z w2 ⟨e,hd⟩
  exact ⟨e,hd.loop ho (hout.owes h2.okL h1.rcv.len h3) (hh.room.trans h4) h5 h6⟩
 ·refine (h.other hj hz hT hP f fv fi kd (by omega) on kp tn hkp).mono ?_
  rintro z w2 ⟨e,h2⟩
  exact ⟨e,h2.mono (Nat.le_succ _)⟩
end
end Go.Proofs.YtfdmbomlkpkegaaGreat
namespace Go.Proofs.YtfdmbomlkpkegaaGreat
open Go Go.RowKit Go.Dr Go.Shelf
section
def ofR (l:List Nat):List Xc:=l.foldl (fun s n=>Yq s n n) []
end
section
theorem ofR_snoc (l:List Nat) (n:Nat):ofR (l++[n])=Yq (ofR l) n n:=by simp [ofR]
end
section
theorem ofR_ok:∀ (k:Nat) (l:List Nat),(∀ n∈l,n<18446744073709551616)->Uk (ofR (l.take k))/\∀ n,Ux (ofR (l.take k)) n ↔ n∈l.take k:=by
 intro k l hl
 induction k with
 | zero=>exact ⟨Uk.nil,fun n=>⟨fun h=>(Ux.nil _ h).elim,fun h=>by simp at h⟩⟩
 | succ k ih =>
  by_cases hk:k<l.length
  ·rw [List.take_succ_eq_append_getElem hk,ofR_snoc]
   have h1:=hl l[k] (List.getElem_mem hk)
   obtain ⟨i1,i2⟩:=Oc (f:=l[k]) ih.1 h1
   refine ⟨i1,fun n=>?_⟩
   have e:(l[k]<=n/\n<=l[k]) ↔ n=l[k]:=by omega
   rw [i2,ih.2,List.mem_append,List.mem_singleton,e]
  ·rw [List.take_of_length_le (by omega)] at ih ⊢
   exact ih
end
section
theorem rOf_spec {w:World} {v:Value} {l:List Nat} {low N:Nat} (h:Uo w 0 v l) (hl:l.length<=1048576) (hN:N<=268435456) (hb:∀ n∈l,low<=n/\n<low+N/\n<4611686018427387904) :
  Calls Tryz.prog 95 #[v] w fun e w'=>∃ v',e=.returned (.agg #[v'])/\Zy w' v' (ofR l)/\Xy No w w':=by
 obtain ⟨ao,cap,rfl,_,_⟩:=h.form
 have h64:∀ n∈l,n<18446744073709551616:=fun n hn=>by have:=hb n hn;omega
 have hok:=fun k=>ofR_ok k l h64
 have hlen:∀ k,(ofR (l.take k)).length<=268435456:=fun k=>by
  have:=Uk.len (a:=low) (N:=N) (hok k).1 (fun r hr=>by
   have h1:=hb _ (List.mem_of_mem_take (((hok k).2 _).1 ((hok k).1.first hr)))
   have h2:=hb _ (List.mem_of_mem_take (((hok k).2 _).1 ((hok k).1.last hr)))
   omega)
  omega
 obtain ⟨W,hW⟩:∃ W,W=(w.alloc (.cells #[.slice none 0 0] 90)).alloc (.cells #[.slice none 0 0] 90):=⟨_,rfl⟩
 have kW:Xy No w W:=by rw [hW];exact ((Xy.refl _ _).alloc _).alloc _
 have hA:W.heap[w.heap.size]?=some (.cells #[.slice none 0 0] 90 (0,0)):=by
  rw [hW]
  exact ((Xy.refl No _).alloc _).heap (Qy _ _) (fun e=>e)
 have hB:W.heap[w.heap.size+1]?=some (.cells #[.slice none 0 0] 90 (0,0)):=by
  rw [hW]
  have:=Qy (w.alloc (.cells #[.slice none 0 0] 90)) (.cells #[.slice none 0 0] 90)
  rw [World.size_alloc] at this
  exact this
 obtain ⟨A,hAe⟩:∃ A,A=w.heap.size:=⟨_,rfl⟩
 obtain ⟨B,hBe⟩:∃ B,B=w.heap.size+1:=⟨_,rfl⟩
 rw [<- hAe] at hA
 rw [<- hBe] at hB
 have hAB:¬A=B:=by omega
 have hnum:∀ (X:World),Xy (·=B) W X->∀ (k x:Nat),l[k]?=some x->∃ g,ao=some ⟨g,0,none⟩/\X.cell? ⟨g,k,none⟩=some (.int .u64 x):=by
  intro X kX k x hx
  have h1:=h.no kW
  obtain ⟨_,h2⟩:=h1
  rcases h2 with ⟨_,e⟩ | ⟨g,cap',cur,e1,e2,e3,e4,e5,e6,e7⟩
  ·have:=(List.getElem?_eq_some_iff.1 hx).1
   omega
  ·simp only [Value.slice.injEq] at e1
   obtain ⟨rfl,_,_⟩:=e1
   refine ⟨g,rfl,?_⟩
   have hgB:¬g=B:=fun e=>by
    rw [e,hB] at e3
    simp at e3
   rw [Qq (kX.heap e3 hgB)]
   have h3:(l.map Mh)[k]?=some (Mh x):=by rw [List.getElem?_map,hx];rfl
   rw [<- e7,List.getElem?_take] at h3
   split at h3
   ·simpa [Mh] using h3
   ·simp at h3
 have HH:=Lib.hid (A11 kW hA hB hAB hAe hBe hok hlen h64 hnum hl)
 clear h hl hb h64 hok hlen kW hA hB hnum
 go_enter Tryz.func95,Tryz.ntmps95
 go_upto_region 2 with fail
 rw [<- hW,<- hBe,<- hAe]
 clear hW hAe hBe
 go_wp2_with fail
 go_loopw [8] (fun v8 wr=>∃ (k:Nat) (uo:Option Addr) (uc:Nat),v8=.int .i64 (k:Nat)/\k<=l.length/\wr.heap[B]?=some (.cells #[.slice uo (ofR (l.take k)).length uc] 90 (0,0))/\Zy wr (.slice uo (ofR (l.take k)).length uc) (ofR (l.take k))/\Xy (·=B) W wr) (fun v8 _=>l.length - (intOf v8).toNat)
 case atStart=>exact ⟨0,none,0,rfl,Nat.zero_le _,HH.out.2.2.1,Zy.nil _,Xy.refl _ _⟩
 case round =>
  obtain ⟨k,uo,uc,rfl,hk,hz,hr,kr⟩:=hrel
  obtain ⟨s,hs⟩:∃ s,s=ofR (l.take k):=⟨_,rfl⟩
  rw [<- hs] at hz hr
  have d0:=Qq hz 0
  have fz:=Qg hz
  simp at d0
  by_cases hlt:k<l.length
  ·have hx:l[k]?=some l[k]:=List.getElem?_eq_getElem hlt
   have htake:l.take (k+1)=l.take k++[l[k]]:=List.take_succ_eq_append_getElem hlt
   generalize l[k]=z at hx htake
   obtain ⟨g,hg,cz⟩:=HH.out.2.2.2.2.2.2.2.2.2.1 wr kr k z hx
   subst hg
   have hki:(k:Int)<(l.length:Int):=by omega
   have h20:(l.length:Int)<=1048576:=by have:=HH.out.2.2.2.2.2.2.2.2.2.2;omega
   have hadd:=R1 hr (by rw [hs];exact (HH.out.2.2.2.2.2.2.1 k).1) z (by rw [hs];exact HH.out.2.2.2.2.2.2.2.1 k) (HH.out.2.2.2.2.2.2.2.2.1 z (List.mem_of_getElem? hx))
   have hsz:Yq s z z=ofR (l.take (k+1)):=by rw [htake,ofR_snoc,<- hs]
   rw [hsz] at hadd
   obtain ⟨s2,hs2⟩:∃ s2,s2=ofR (l.take (k+1)):=⟨_,rfl⟩
   rw [<- hs2] at hadd
   have HR:=Lib.hid (A4 hz kr hlt hs2)
   clear hz hr kr hlt hx htake hsz hs hs2 hk
   go_wp2_with (go_at_call 117;refine hadd.mono ?_;rintro e w2 ⟨u2,rfl,hr2,k2⟩;obtain ⟨o2,c2,rfl,_,_⟩:=hr2.form;have hz2:=k2.heap HR.out.1 (fun e=>e);have f2:=Qg hz2;have e2:=Qq hz2 0;simp at e2)
   have hz3:=Qz (i:=0) (u:=.slice o2 s2.length c2) hz2
   have k3:Xy (·=B) w2 (w2.setCell ⟨B,0,none⟩ (.slice o2 s2.length c2)):=Qd _ _
   have hr3:=hr2.keep (Zn.block hz2 (by decide)) k3
   go_roundw
   case rel =>
    refine ⟨k+1,o2,c2,by congr 1,by have:=HR.out.2.2.1;omega,?_,?_,(HR.out.2.1.then k2).trans k3 (fun _ _ e=>e)⟩
    ·rw [<- HR.out.2.2.2];simpa using hz3
    ·rw [<- HR.out.2.2.2];exact hr3
   case measure=>have:=HR.out.2.2.1;simp [intOf];omega
  ·have hke:k=l.length:=by omega
   have hki:¬(k:Int)<(l.length:Int):=by omega
   rename World=>w3
   have hs':s=ofR l:=by rw [hs,hke,List.take_of_length_le (Nat.le_refl _)]
   have hA3:=kr.heap HH.out.2.1 HH.out.2.2.2.1
   have e3:=Qq hA3 0
   have f3:=Qg hA3
   simp at e3
   have HR:=Lib.hid (A4 hr kr hs' hA3)
   clear hz hr kr hke hlt hs' hs hk
   go_wp2_with fail
   obtain ⟨hr,kr,hs',hA3⟩:=HR.out
   have hz4:=Qz (i:=0) (u:=.slice uo s.length uc) hA3
   have k4:Xy (·=A) w3 (w3.setCell ⟨A,0,none⟩ (.slice uo s.length uc)):=Qd _ _
   have z0:=Qq hz4 0
   simp at z0
   refine bodyPost_ret (v:=.agg #[.slice uo s.length uc]) (by simp [results,Tryz.results95,go_sem,z0]) rfl ?_
   refine ⟨_,rfl,?_,?_⟩
   ·rw [<- hs'];exact hr.keep (Zn.block hA3 (by decide)) k4
   ·exact (HH.out.1.absorb kr (fun c e=>by have e:c=B:=e;have:=HH.out.2.2.2.2.2.1;omega)).absorb k4 (fun c e=>by have e:c=A:=e;have:=HH.out.2.2.2.2.1;omega)
end
end Go.Proofs.YtfdmbomlkpkegaaGreat
namespace Go.Proofs.YtfdmbomlkpkegaaGreat
open Go Go.RowKit Go.Dr Go.Shelf
theorem Rq.of {w:World} {v:Value} {x:Xn} {k:Nat} (hv:Rq w v x k) (hk:k<=1048576) (hx:x.Ok) :
  Calls Tryz.prog 95 #[v] w fun e w'=>∃ v',e=.returned (.agg #[v'])/\Zy w' v' x.set/\Xy No w w':=by
 obtain ⟨l,h1,h2,h3⟩:=hv
 have hab:∀ n∈l,x.low<=n/\n<x.low+1025/\n<4611686018427387904:=fun n hn=>by
  have h4:=hx.above n ((h3 n).1 hn)
  have h5:=hx.width
  omega
 have h64:∀ n∈l,n<18446744073709551616:=fun n hn=>by have:=hab n hn;omega
 obtain ⟨o1,o2⟩:=ofR_ok l.length l h64
 rw [List.take_length] at o1 o2
 have heq:x.set=ofR l:=Uk.ext hx.set o1 (fun n=>by rw [<- h3,o2])
 rw [heq]
 exact rOf_spec h1 (by omega) (N:=1025) (by decide) hab
section
variable [bn:Inhabited Ban] {base:Nat} {w wr:World} {P R X q p r xq width j:Nat} {size:Int} {S:S16} {o:List Nat} {F G:Nat->Prop}
theorem like17_spec (h:Q17 base w P R X q p r xq width size S o S o F G) (ok:Ue width j S) (hj:j<=450) (how:Nj S.L o) (hb:base<=w.heap.size) (hT:ban.top<=w.heap.size) :
  Calls Tryz.prog 47 #[.pointer (some ⟨P,0,none⟩)] w fun e w'=>e=.returned (.bool true)/\Xy No w w':=by
 have htold:=h.dcl.told ok hj hb hT
 have has:=h.led.asks ok hj 0
 have p0:=Qq h.blk 0
 have p1:=Qq h.blk 1
 simp at p0 p1
 have r0:=h.rcv.led
 have x0:=h.rdv.led
 have HH:=Lib.hid (A3 h ok has)
 have HW:=Lib.hid how
 clear h ok hj hb hT has how
 go_enter Tryz.func47,Tryz.ntmps47
 go_upto_region 2 with (first
  | (go_at_call 74;refine htold.mono ?_;rintro e w2 ⟨cs,rfl,hst,k2⟩;have hsz:=hst.size;have hone:=hst.all;have hinf:=hst.info;have HST:=Lib.hid hst;clear hst)
  | (refine wpList_store_row rfl 168 _ _ rfl w2.heap.size cs rfl rfl 168 Tryz.zeroCells168 (Qy _ _) hinf (by rw [hsz];rfl) hone ?_))
 have hz9:=setRow_heap _ w2.heap.size _ cs _ _ (Qy w2 (.cells Tryz.zeroCells168 168))
 have k3:Xy No w2 ((w2.alloc (.cells Tryz.zeroCells168 168)).setRow w2.heap.size cs):=((Xy.refl No w2).alloc _).trans (Zi _ w2.heap.size cs) (fun c hc e=>by have e:c=w2.heap.size:=e;omega)
 generalize (w2.alloc (.cells Tryz.zeroCells168 168)).setRow w2.heap.size cs=W3 at *
 obtain ⟨b3,hb3⟩:∃ b3,b3=w2.heap.size:=⟨_,rfl⟩
 rw [<- hb3] at hz9 ⊢
 have k03:=k2.then k3
 have HA:=Lib.hid (A3 (Hj.no HST.out k3) k03 hz9)
 have p0:=k03.cell p0 (fun e=>e)
 have p1:=k03.cell p1 (fun e=>e)
 have r0:=k03.cell r0 (fun e=>e)
 have x0:=k03.cell x0 (fun e=>e)
 obtain ⟨lv,hl1,hl2⟩:=HA.out.1.recs
 obtain ⟨lo,lc,rfl,_,_⟩:=Us.form hl2
 have s65:=Qq hz9 65
 rw [hl1] at s65
 have HS:=Lib.hid s65
 clear k03 hz9 k3 k2 hsz hone hinf htold hb3 hl1 hl2 s65
 go_wp2_with fail
 go_loopw [18] (fun v18 wr=>∃ a:Nat,a<=16/\v18=.int .i64 (a:Nat)/\Xy No W3 wr) (fun v18 _=>16 - (intOf v18).toNat)
 case atStart=>exact ⟨0,by decide,rfl,Xy.refl _ _⟩
 case round =>
  obtain ⟨a,ha,rfl,kr⟩:=hrel
  by_cases hlt:a<16
  ·obtain ⟨gg,hg,hgo,hgw,hgf⟩:=HH.out.2.1.okL.at hlt
   have hnow:S.L.now[a]?=some (S.L.floor a,S.L.win a):=by unfold Xs.now;rw [List.getElem?_map,hg,hgf,hgw];rfl
   have hS3:=Hj.no HA.out.1 kr
   have hz3:=kr.heap HA.out.2.2 (fun e=>e)
   obtain ⟨g0,g1,_,dv,g3,hdw⟩:=hS3.ags a _ hnow
   have s0:=Qq hz3 (1+a)
   have s1:=Qq hz3 (17+a*3)
   have s3:=Qq hz3 (17+a*3+2)
   rw [g0] at s0
   rw [g1] at s1
   rw [g3] at s3
   unfold Mh at s0 s1
   dsimp only at s0 s1
   have kWr:=HA.out.2.1.then kr
   have hq:=HH.out.1.no kWr
   obtain ⟨on,hon,x1⟩:=hq.rdv.owes a hlt
   have hon4:on<=4:=by
    have e:o.getD a 0=on:=by rw [List.getD_eq_getElem?_getD,hon];rfl
    by_cases h:on=0
    ·omega
    ·have:=(HW.out a (by rw [e];exact h)).2
     rw [e] at this
     omega
   have hwo:IntKind.i64.wrap (on:Int)=(on:Int):=by rw [IntKind.wrap_i64];omega
   have p0:=kr.cell p0 (fun e=>e)
   have p1:=kr.cell p1 (fun e=>e)
   have hwn:=hq.led.winOf hlt
   have hwin:=hwn.2 wr (Xy.refl _ _)
   have hrl:=Rl hq.rcv
   have hai:(a:Int)<16:=by omega
   have hain:IntKind.i64.wrap ((a:Int)+1)=((a+1:Nat):Int):=by rw [IntKind.wrap_i64];omega
   have r0:=kr.cell r0 (fun e=>e)
   have HR:=Lib.hid (A6 hq hlt kr hon hdw hwn.1)
   clear hg hgo hgw hgf hnow hS3 hz3 g0 g1 g3 kWr hq hon hwn hlt kr ha hdw hon4
   go_upto_region 6 with (first
    | (go_at_call 34;refine hrl.mono ?_;rintro e w4 ⟨rfl,e4⟩;have e4:=e4.symm;subst e4)
    | (go_at_call 37;refine hwin.mono ?_;rintro e w5 ⟨u5,rfl,hu5,k5⟩;obtain ⟨wo,wc,rfl,hwr⟩:=hu5.form))
   clear hrl hwin hu5
   obtain ⟨W6,hW6⟩:∃ W6,W6=w5.alloc (.cells #[.int .u64 (S.L.win a).low,.int .u64 (S.L.win a).width,.slice wo (S.L.win a).set.length wc] 92):=⟨_,rfl⟩
   have k6:Xy No w5 W6:=by rw [hW6];exact (Xy.refl _ _).alloc _
   have hB:=Qy w5 (.cells #[.int .u64 (S.L.win a).low,.int .u64 (S.L.win a).width,.slice wo (S.L.win a).set.length wc] 92)
   rw [<- hW6] at hB ⊢
   clear hW6
   have z0:=Qq hB 0
   have z2:=Qq hB 2
   simp at z0 z2
   have kr6:=k5.then k6
   have p0:=kr6.cell p0 (fun e=>e)
   have p1:=kr6.cell p1 (fun e=>e)
   have r0:=kr6.cell r0 (fun e=>e)
   have x1:=kr6.cell x1 (fun e=>e)
   have s0:=kr6.cell s0 (fun e=>e)
   have s1:=kr6.cell s1 (fun e=>e)
   have s3:=kr6.cell s3 (fun e=>e)
   have hq6:=HR.out.1.no kr6
   have hwr6:=hwr.no k6
   obtain ⟨dn,dl,dc,hdv⟩:=HR.out.2.2.2.2.1.form
   have hdw6:=HR.out.2.2.2.2.1.no kr6
   have hk6:S.L.recs.length<=1048576:=by have:=HH.out.2.2.2.2.2.2;omega
   have HL:=Lib.hid (A6 (fun Y (k:Xy No W6 Y)=>Ei (hq6.rcv.no k) HR.out.2.1 HR.out.2.2.2.1) (fun Y (k:Xy No W6 Y)=>Rl (hq6.rcv.no k)) (fun Y (k:Xy No W6 Y)=>(hq6.led.no k).floorOf HR.out.2.1) (fun Y (k:Xy No W6 Y)=>(hdw6.no k).of hk6 HR.out.2.2.2.2.2) (fun Y v' (k:Xy No W6 Y) (hv:Zy Y v' (S.L.win a).set)=>by have:=UH (hwr6.no k) hv HR.out.2.2.2.2.2.few HR.out.2.2.2.2.2.few;rw [decide_eq_true rfl] at this;exact this) (HR.out.2.2.1.then kr6))
   have kd:Xy No W6 W6.drew:=(Xy.refl _ _).drew
   clear hwr hB k5 k6 kr6 hq6 hwr6 hdw6 hk6
   subst hdv
   refine Vr (fun w'=>Xy No W6 w') [([0,1,2,3,4,7,8,9,10,11,12,13,14,15],[5]),([6,16,17,18,19,20,21,23,25,26,27,28],[22,24]),([29,30,31,32,33,34,35,36,37,38,39,40,41,42,43,44,45,46,47,48],[49,50]),([51,52],[])] (by kernel_rfl) (by kernel_rfl) (fun _ _ _ _ _ h=>h) kd ?_
   iterate 14 (refine Qk (v:=?_) rfl rfl rfl ?_ ?_;rotate_left;focus (
    intro w' hS
    have g0:=hS.cell p0 (fun e=>e)
    have g1:=hS.cell p1 (fun e=>e)
    have g2:=hS.cell x1 (fun e=>e)
    have g3:=hS.cell s0 (fun e=>e)
    have g4:=hS.cell s1 (fun e=>e)
    have g5:=hS.cell s3 (fun e=>e)
    have g6:=hS.cell z0 (fun e=>e)
    have g7:=hS.cell z2 (fun e=>e)
    go_simp
    try with_reducible rfl))
   refine Qj ?_
   refine Qx rfl rfl (fun K hK=>?_)
   go_simp
   refine (HL.out.1 _ kd).mono ?_
   rintro e w10 ⟨rfl,e10⟩
   have e10:=e10.symm
   subst e10
   refine hK _ _ kd ?_
   clear hK K
   refine Qh ?_
   iterate 3 (refine Qk (v:=?_) rfl rfl rfl ?_ ?_;rotate_left;focus (
    intro w' hS
    go_simp
    try with_reducible rfl))
   iterate 9 (refine Qe (v:=?_) rfl rfl (by first | kernel_rfl | simp [Region.wanted,yielded,Act.put,undef]) ?_ ?_;rotate_left;focus (
    intro w' hS
    have g0:=hS.cell p0 (fun e=>e)
    have g1:=hS.cell p1 (fun e=>e)
    have g2:=hS.cell x1 (fun e=>e)
    have g3:=hS.cell s0 (fun e=>e)
    have g4:=hS.cell s1 (fun e=>e)
    have g5:=hS.cell s3 (fun e=>e)
    have g6:=hS.cell z0 (fun e=>e)
    have g7:=hS.cell z2 (fun e=>e)
    go_simp
    try with_reducible rfl))
   refine Qj ?_
   refine Za rfl (by first | kernel_rfl | simp [Region.wanted,yielded,Act.put,undef]) (fun K hK=>?_)
   go_simp
   refine (HL.out.2.1 _ kd).mono ?_
   rintro e w10 ⟨rfl,e10⟩
   have e10:=e10.symm
   subst e10
   refine hK _ _ kd ?_
   clear hK K
   refine Za rfl (by first | kernel_rfl | simp [Region.wanted,yielded,Act.put,undef]) (fun K hK=>?_)
   go_simp
   refine (HL.out.2.2.1 _ kd).mono ?_
   rintro e w10 ⟨rfl,e10⟩
   have e10:=e10.symm
   subst e10
   refine hK _ _ kd ?_
   clear hK K
   refine Qh ?_
   iterate 1 (refine Qe (v:=?_) rfl rfl (by first | kernel_rfl | simp [Region.wanted,yielded,Act.put,undef]) ?_ ?_;rotate_left;focus (
    intro w' hS
    go_simp
    try with_reducible rfl))
   iterate 2 (refine Qk (v:=?_) rfl rfl rfl ?_ ?_;rotate_left;focus (
    intro w' hS
    go_simp
    try with_reducible rfl))
   iterate 8 (refine Qe (v:=?_) rfl rfl (by first | kernel_rfl | simp [Region.wanted,yielded,Act.put,undef]) ?_ ?_;rotate_left;focus (
    intro w' hS
    have g0:=hS.cell p0 (fun e=>e)
    have g1:=hS.cell p1 (fun e=>e)
    have g2:=hS.cell x1 (fun e=>e)
    have g3:=hS.cell s0 (fun e=>e)
    have g4:=hS.cell s1 (fun e=>e)
    have g5:=hS.cell s3 (fun e=>e)
    have g6:=hS.cell z0 (fun e=>e)
    have g7:=hS.cell z2 (fun e=>e)
    go_simp
    try with_reducible rfl))
   iterate 2 (refine Qk (v:=?_) rfl rfl rfl ?_ ?_;rotate_left;focus (
    intro w' hS
    go_simp
    try with_reducible rfl))
   iterate 7 (refine Qe (v:=?_) rfl rfl (by first | kernel_rfl | simp [Region.wanted,yielded,Act.put,undef]) ?_ ?_;rotate_left;focus (
    intro w' hS
    have g0:=hS.cell p0 (fun e=>e)
    have g1:=hS.cell p1 (fun e=>e)
    have g2:=hS.cell x1 (fun e=>e)
    have g3:=hS.cell s0 (fun e=>e)
    have g4:=hS.cell s1 (fun e=>e)
    have g5:=hS.cell s3 (fun e=>e)
    have g6:=hS.cell z0 (fun e=>e)
    have g7:=hS.cell z2 (fun e=>e)
    go_simp
    try with_reducible rfl))
   refine Qj ?_
   refine Za rfl (by first | kernel_rfl | simp [Region.wanted,yielded,Act.put,undef]) (fun K hK=>?_)
   go_simp
   refine (HL.out.2.2.2.1 _ kd).mono ?_
   rintro e w11 ⟨v11,rfl,hv11,k11⟩
   have k11:=kd.then k11
   have hsm:=HL.out.2.2.2.2.1 _ v11 k11 hv11
   obtain ⟨o11,c11,rfl,_,_⟩:=hv11.form
   refine hK _ _ k11 ?_
   clear hK K
   refine Za rfl (by first | kernel_rfl | simp [Region.wanted,yielded,Act.put,undef]) (fun K hK=>?_)
   go_simp
   refine hsm.mono ?_
   rintro e w12 ⟨rfl,k12⟩
   have k12:=k11.then k12
   refine hK _ _ k12 ?_
   clear hK K
   refine Qh ?_
   iterate 1 (refine Qe (v:=?_) rfl rfl (by first | kernel_rfl | simp [Region.wanted,yielded,Act.put,undef]) ?_ ?_;rotate_left;focus (
    intro w' hS
    go_simp
    try with_reducible rfl))
   iterate 1 (refine Qk (v:=?_) rfl rfl rfl ?_ ?_;rotate_left;focus (
    intro w' hS
    go_simp
    try with_reducible rfl))
   refine Qj ?_
   refine Qh ?_
   refine Bx ?_
   go_simp
   have hfin:=HL.out.2.2.2.2.2.then k12
   clear k12 k11 kd p0 p1 r0 x1 s0 s1 s3 z0 z2
   go_wp2_with fail
   go_roundw
   case rel=>exact ⟨a+1,HR.out.2.1,by go_num,hfin⟩
   case measure=>have:=HR.out.2.1;simp [intOf];omega
  ·have hai:¬(a:Int)<16:=by omega
   have HR:=Lib.hid kr
   have p0:=kr.cell p0 (fun e=>e)
   have r0:=kr.cell r0 (fun e=>e)
   have s65:=kr.cell HS.out (fun e=>e)
   clear kr hlt ha
   go_upto_region 9 with fail
   have kd:Xy No wr wr.drew:=(Xy.refl _ _).drew
   have hk:=HA.out.2.1.then HR.out
   refine Vr (fun w'=>Xy No wr w') [([0,1,2,3,7,8,9],[4,5]),([6,10],[11])] (by kernel_rfl) (by kernel_rfl) (fun _ _ _ _ _ h=>h) kd ?_
   iterate 7 (refine Qk (v:=?_) rfl rfl rfl ?_ ?_;rotate_left;focus (
    intro w' hS
    have g0:=hS.cell p0 (fun e=>e)
    have g1:=hS.cell r0 (fun e=>e)
    have g2:=hS.cell s65 (fun e=>e)
    go_simp
    try with_reducible rfl))
   refine Qj ?_
   refine Qx rfl rfl (fun K hK=>?_)
   go_simp
   refine (Rl (HH.out.1.rcv.no (hk.then kd))).mono ?_
   rintro e w10 ⟨rfl,e10⟩
   have e10:=e10.symm
   subst e10
   refine hK _ _ kd ?_
   clear hK K
   refine Qx rfl rfl (fun K hK=>?_)
   go_simp
   refine (HH.out.2.2.2.2.2.1 _ (hk.then kd)).mono ?_
   rintro e w11 ⟨v11,rfl,hv11,k11⟩
   obtain ⟨o11,c11,rfl,_,_⟩:=hv11.form
   have k11:=kd.then k11
   refine hK _ _ k11 ?_
   clear hK K hv11
   refine Qh ?_
   iterate 2 (refine Qk (v:=?_) rfl rfl rfl ?_ ?_;rotate_left;focus (
    intro w' hS
    go_simp
    try with_reducible rfl))
   refine Qj ?_
   refine Qx rfl rfl (fun K hK=>?_)
   go_simp
   refine hK _ _ k11 ?_
   clear hK K
   refine Qh ?_
   refine Bx ?_
   go_simp
   have HZ:=Lib.hid (hk.then k11)
   go_wp2_with fail
   go_ret
   exact ⟨rfl,HZ.out⟩
theorem Ro.like (h:Ro w P width size j wr) (hj:j<=450) (hT:ban.top<=w.heap.size) :
  Calls Tryz.prog 47 #[.pointer (some ⟨P,0,none⟩)] wr fun e w'=>e=.returned (.bool true)/\Ro w P width size j w':=by
 have h0:=h
 obtain ⟨R,X,q,p,r,xq,S,o,F,G,h1,h2,h3,h4,h5,h6⟩:=h
 refine (like17_spec h1 h2 hj h3 h6.size (Nat.le_trans hT h6.size)).mono ?_
 rintro e w2 ⟨rfl,k⟩
 exact ⟨rfl,h0.no k⟩
end
end Go.Proofs.YtfdmbomlkpkegaaGreat
namespace Go.Proofs.YtfdmbomlkpkegaaGreat
open Go Go.RowKit Go.Dr Go.Shelf
theorem plays17_walk [bn:Inhabited Ban] {w:World} (hT:ban.top<=w.heap.size) (wd sg:Nat) {v2:Value} {acts:List Dj} (hv:Gu w.heap.size 13 (Cv w.heap.size w) v2 acts) :
  Calls Tryz.prog 10 #[.int .u16 wd,.int .u16 sg,v2] w fun e w'=>e=.returned (.bool true)/\Xy No w w':=by
 have hv0:=hv
 obtain ⟨ao,cap,rfl,hac,hcm,_⟩:=hv0
 have haw:=Lp (w:=w) hT
 have hli:(acts.length:Int)<=9223372036854775807:=by unfold maxLen at hcm;omega
 have HT:=Lib.hid (A4 hT hv trivial hli)
 clear hT hv hac hcm hli
 go_enter Tryz.func10,Tryz.ntmps10
 go_upto_region 3 with (go_at_call 28;refine haw.mono ?_;rintro e w1 ⟨rfl,k1⟩)
 clear haw
 have hop:=Dc (base:=w.heap.size) (w:=w1) wd sg k1.size (Nat.le_trans HT.out.1 k1.size)
 go_upto_region 6 with (go_at_call 29;refine hop.mono ?_;rintro e w2 ⟨P,R,X,q,p,r,xq,S,F,G,rfl,hP,hok,hfr,_,_,hft,k2⟩)
 clear hop
 obtain ⟨width,hwidth⟩:∃ n:Nat,n=1+wd % 30:=⟨_,rfl⟩
 obtain ⟨size,hsize⟩:∃ n:Nat,n=1+sg % 300:=⟨_,rfl⟩
 rw [<- hwidth,<- hsize] at hP
 rw [<- hwidth] at hok
 have hz:(1:Int)<=(size:Int):=by omega
 have hPb:w.heap.size<=P:=Nat.le_trans k1.size (hft P (.inl rfl))
 have HI:=Lib.hid (A3 (Ro.start hP hok hfr.2.1 (Fq _) (fun b hb=>Nat.le_trans k1.size (hft b hb)) (k1.then k2)) hz hPb)
 clear hP hok hfr hft k1 k2 hwidth hsize hz hPb
 go_wp2_with fail
 go_loopw [19] (fun v19 wr=>∃ i:Nat,v19=.int .i64 (i:Nat)/\i<=acts.length/\Ro w P width size (1+2*min i 25) wr) (fun v19 _=>acts.length - (intOf v19).toNat)
 case atStart=>exact ⟨0,rfl,Nat.zero_le _,HI.out.1⟩
 case round =>
  obtain ⟨i,rfl,hi,hW⟩:=hrel
  have hli:=HT.out.2.2.2
  by_cases hlt:i<acts.length
  ·have hx:acts[i]?=some acts[i]:=List.getElem?_eq_getElem hlt
   generalize acts[i]=a at hx
   obtain ⟨g,o,hgo,hA⟩:=Gu.at HT.out.2.1 hx
   subst hgo
   obtain ⟨fv,fi,hfv,hfi,hc⟩:=hA.cells
   obtain ⟨fo,fc,rfl,hfl,hfm⟩:=hfv.form
   obtain ⟨io,ic,rfl,hil,him⟩:=hfi.form
   have hkw:Xy No w wr:=hW.keep
   have c0:=hkw.cell (hc 0 (by decide)) (fun e=>e)
   have c1:=hkw.cell (hc 1 (by decide)) (fun e=>e)
   have c2:=hkw.cell (hc 2 (by decide)) (fun e=>e)
   have c3:=hkw.cell (hc 3 (by decide)) (fun e=>e)
   have c4:=hkw.cell (hc 4 (by decide)) (fun e=>e)
   have c5:=hkw.cell (hc 5 (by decide)) (fun e=>e)
   have c6:=hkw.cell (hc 6 (by decide)) (fun e=>e)
   have c7:=hkw.cell (hc 7 (by decide)) (fun e=>e)
   have c8:=hkw.cell (hc 8 (by decide)) (fun e=>e)
   have c9:=hkw.cell (hc 9 (by decide)) (fun e=>e)
   have c10:=hkw.cell (hc 10 (by decide)) (fun e=>e)
   have c11:=hkw.cell (hc 11 (by decide)) (fun e=>e)
   have c12:=hkw.cell (hc 12 (by decide)) (fun e=>e)
   simp [Ty] at c0 c1 c2 c3 c4 c5 c6 c7 c8 c9 c10 c11 c12
   have hii:(i:Int)<(acts.length:Int):=by omega
   have hin:IntKind.i64.wrap ((i:Int)+1)=((i+1:Nat):Int):=by rw [IntKind.wrap_i64];omega
   have hk8:=hA.kind
   have hnum:=hA.num
   have hkept:=hA.kept
   obtain ⟨cs,hcs⟩:∃ cs:Array Value,cs=Ty a.kd a.f (.slice fo a.f.runs.length fc) (.slice io a.f.items.length ic) a.on a.keep a.torn:=⟨_,rfl⟩
   have kA:=(Xy.refl No wr).alloc (.cells cs 85)
   have hbA:=Qy wr (.cells cs 85)
   have hWA:=hW.no kA
   have hm:Int.tmod (a.kd:Int) 6=((a.kd % 6:Nat):Int):=rfl
   have HR:=Lib.hid (A8 hWA hfv hfi hk8 hnum hkept hlt hkw)
   clear hW hA hc hi hx kA hfv hfi hk8 hnum hkept hil him hfl hfm hWA hkw
   by_cases h25:25<=i
   ·have q1:(25:Int)<=(i:Int):=by omega
    have HX:=Lib.hid (HR.out.2.2.2.2.2.2.2.alloc (.cells cs 85))
    rw [hcs] at HX
    unfold Ty at HX
    clear h25 hlt hm hbA hcs HR
    go_wp2_with fail
    go_ret
    exact ⟨rfl,HX.out⟩
   ·have q1:¬(25:Int)<=(i:Int):=by omega
    have hm25:min i 25=i:=by omega
    have hm26:min (i+1) 25=i+1:=by omega
    rw [hm25] at HR
    obtain ⟨W,hW⟩:∃ W,W=wr.alloc (.cells cs 85):=⟨_,rfl⟩
    rw [<- hW] at hbA HR
    rw [hcs] at hbA hW
    have hws:wr.heap.size<W.heap.size:=by rw [hW];simp
    obtain ⟨b12,hb12⟩:∃ b,b=wr.heap.size:=⟨_,rfl⟩
    have hbn:=HR.out.2.2.2.2.2.2.2.size
    rw [<- hb12] at hbA hws hbn
    have kwW:Xy No w W:=HR.out.1.keep
    have d0:=Qq hbA 0
    have d1:=Qq hbA 1
    have d2:=Qq hbA 2
    have d3:=Qq hbA 3
    have d4:=Qq hbA 4
    have d5:=Qq hbA 5
    have d6:=Qq hbA 6
    have d7:=Qq hbA 7
    have d8:=Qq hbA 8
    have d9:=Qq hbA 9
    have d10:=Qq hbA 10
    have d11:=Qq hbA 11
    have d12:=Qq hbA 12
    simp [Ty] at d0 d1 d2 d3 d4 d5 d6 d7 d8 d9 d10 d11 d12
    have HM:=Lib.hid (A5 hlt hm26 hbn hws kwW)
    have HB12:=Lib.hid hbA
    unfold Ty at hW
    clear h25 hlt hcs hm25 hm26 hbA hbn hws kwW
    go_upto_region 10 with fail
    rw [<- hW,<- hb12]
    clear hW hb12 c0 c1 c2 c3 c4 c5 c6 c7 c8 c9 c10 c11 c12
    have hdo:=HR.out.1.do (by have:=HM.out.1;omega) HI.out.2.1 HT.out.1 HI.out.2.2 a.f HR.out.2.2.2.1 HR.out.2.1 HR.out.2.2.2.2.1 HR.out.2.2.1 a.kd a.on a.keep a.torn HR.out.2.2.2.2.2.1
    unfold Ty at hdo
    have hj:1+2*i+2<=450:=by omega
    have HJ:=Lib.hid hj
    clear hm hj
    go_wp2_with (first
     | (go_at_call 47;refine hlk.mono ?_;rintro e w4 ⟨rfl,hW4⟩;have H4:=Lib.hid hW4;clear hW4)
     | (go_at_call 35;refine hdo.mono ?_;rintro e w3 ⟨rfl,hW3⟩;have hlk:=hW3.like HJ.out HT.out.1;clear hW3))
    go_roundw
    case rel=>exact ⟨i+1,by go_num,HM.out.1,by rw [HM.out.2.1];exact H4.out.mono (by omega)⟩
    case measure=>have:=HM.out.1;simp [intOf];omega
  ·have hii:¬(i:Int)<(acts.length:Int):=by omega
   have HX:=Lib.hid hW.keep
   clear hW hi hlt
   go_wp2_with fail
   go_ret
   exact ⟨rfl,HX.out⟩
end Go.Proofs.YtfdmbomlkpkegaaGreat
