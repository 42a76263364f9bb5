/- Lemmas for ReceiverNil. -/
import Derived.Test.YtfdmbomlkpkegaaGreatS20
import Derived.Test.YtfdmbomlkpkegaaGreatS15
set_option maxRecDepth 100000
set_option maxHeartbeats 8000000
set_option linter.all false
namespace Go.Proofs.YtfdmbomlkpkegaaGreat
open Go Go.RowKit Go.Dr
def Yo (s:SegL) (lv:Value):List Value :=
 [.int .u64 s.n,.bool s.headed,.int .u64 (if s.headed then (s.first:Int) else 0),lv,.bool (s.headed && !s.tail.isEmpty),.int .i64 s.bytes.length]
def Sv [bn:Inhabited Ban] (base:Nat) (w:World) (s:SegL) (e:Ending) (w':World):Prop :=
 ∃ lv,e=.returned (.tuple #[.agg (Yo s lv).toArray,.int .i64 0])/\Zp base w' lv s.recs/\(∀ b,lv.ownBlock=some b->w.heap.size<=b)/\Keep No w w'
theorem rone_bare [bn:Inhabited Ban] {base:Nat} {w:World} {pv:Value} {s:SegL} (hp:Qv base w pv s.bytes) (ho:s.Ok) (hd:s.headed=false) :
  Calls Tryz.prog 175 #[.int .u64 s.n,pv] w (Sv base w s):=by
 obtain ⟨hr,ht⟩:=ho.bare hd
 have hby:s.bytes=s.tail:=by unfold SegL.bytes;rw [hd];rfl
 have hc:∀ lv,Yo s lv=[.int .u64 s.n,.bool false,.int .u64 0,lv,.bool false,.int .i64 s.tail.length]:=fun lv=>by unfold Yo;rw [hd,hby];rfl
 unfold Sv
 simp only [hc,hr]
 rw [hby] at hp
 obtain ⟨ao,cap,rfl⟩:=hp.form
 have hli:(s.tail.length:Int)<12:=by omega
 have hnil:∀ w',Zp base w' (.slice none 0 0) []:=fun w'=>⟨[],rfl,fun i u b h=>by simp at h,World.ownsRow_nil _ _ _ _⟩
 have HN:=Lib.hid hnil
 clear hby hc hr ht ho hd hp hnil
 generalize s.tail.length=m at *
 go_enter Tryz.func175,Tryz.ntmps175
 go_wp2
 refine bodyPost_ret (v:=.tuple #[.agg #[.int .u64 s.n,.bool false,.int .u64 0,.slice none 0 0,.bool false,.int .i64 m],.int .i64 0]) (by simp [results,Tryz.results175,go_sem]) rfl ⟨_,rfl,HN.out _,by simp [Value.ownBlock],((Keep.refl _ _).alloc _).alloc _⟩
def R7In [bn:Inhabited Ban] (base:Nat) (w:World) (s:SegL) (n:Nat) (av:Value) (wr:World):Prop :=
 ∃ (j:Nat) (lv:Value),j<=s.recs.length/\av=.int .i64 ((12+(Xx (s.recs.take j)).length:Nat):Int) /\
  wr.heap[w.heap.size+1]?=some (.cells #[.int .u64 s.n,.bool true,.int .u64 s.first,lv,.bool false,.int .i64 n] 282 (0,0)) /\
  wr.heap[w.heap.size]?=some (.cells #[.int .u64 0,.bool false,.int .u64 0,.slice none 0 0,.bool false,.int .i64 0] 282 (0,0)) /\
  Zp base wr lv (s.recs.take j)/\(∀ b,lv.ownBlock=some b->w.heap.size+2<=b)/\Keep No w wr
theorem wpList_append_rec [bn:Inhabited Ban] {base:Nat} {w:World} {ops:Array Oper} {rest:List Oper} {o:Oper} {a:Act} {Q:Exit->Act->World->Prop} (hg:o.guard=none) (s x:Operand)
  (ho:o.op=.call { callee:=.builtin .append,args:=#[s,x],argTypes:=#[128,128] }) {v:Value} {rs:List Qs} (h:Zp base w v rs) (hs:a.eval s=v) {B:Nat} {u:Value} (hB:w.heap[B]?=some (.cells #[u] 59 (0,0)))
  (hx:a.eval x=.slice (some ⟨B,0,none⟩) 1 1) {b:Qs} (hu:Qv base w u b) (hl:rs.length<=1099511627776) (hb:base<=w.heap.size)
  (hK:∀ v' w',Zp base w' v' (rs++[b])->Keep (fun b=>v.ownBlock=some b) w w'->(∀ b,v'.ownBlock=some b->v.ownBlock=some b\/w.heap.size<=b)->wpList Tryz.prog ops Q rest (a.put o.dst v') w'):wpList Tryz.prog ops Q (o :: rest) a w :=
 wpList_plain hg fun _ hK'=>wp_append_rec s x ho h hs hB hx hu hl hb fun v' w' h1 h2 h3=>hK' _ _ (hK v' w' h1 h2 h3)
theorem set6_own {wr:World} {A:Nat} {c0 c1 c2 c3 c4 c5:Value} {t:TypeId} (hA:wr.heap[A]?=some (.cells #[c0,c1,c2,c3,c4,c5] t (0,0))) (v0 v1 v2 v3 v4 v5:Value) :
  ((((((wr.setCell ⟨A,0,none⟩ v0).setCell ⟨A,1,none⟩ v1).setCell ⟨A,2,none⟩ v2).setCell ⟨A,3,none⟩ v3).setCell ⟨A,4,none⟩ v4).setCell ⟨A,5,none⟩ v5).heap[A]?=some (.cells #[v0,v1,v2,v3,v4,v5] t (0,0)) /\
  Keep (·=A) wr ((((((wr.setCell ⟨A,0,none⟩ v0).setCell ⟨A,1,none⟩ v1).setCell ⟨A,2,none⟩ v2).setCell ⟨A,3,none⟩ v3).setCell ⟨A,4,none⟩ v4).setCell ⟨A,5,none⟩ v5):=by
 have st:∀ {wx:World} (k:Keep (·=A) wr wx) (i:Nat) (u:Value),Keep (·=A) wr (wx.setCell ⟨A,i,none⟩ u):=fun k i u=>Keep.setCell (F:=(·=A)) k (p:=⟨A,i,none⟩) (.inl rfl) u
 refine ⟨?_,st (st (st (st (st (st (Keep.refl _ _) _ _) _ _) _ _) _ _) _ _) _ _⟩
 exact Qz (i:=5) (u:=v5) (Qz (i:=4) (u:=v4) (Qz (i:=3) (u:=v3) (Qz (i:=2) (u:=v2) (Qz (i:=1) (u:=v1) (Qz (i:=0) (u:=v0) hA)))))
theorem r7_out [bn:Inhabited Ban] {base:Nat} {w wr:World} {A:Nat} {c0 c1 c2 c3 c4 c5:Value} {t:TypeId} {n first:Int} {hd tb:Bool} {m:Int} {lv:Value} {rs:List Qs} (hA:wr.heap[A]?=some (.cells #[c0,c1,c2,c3,c4,c5] t (0,0))) (hAw:w.heap.size<=A)
  (hr:Zp base wr lv rs) (ht:t=282) (hb:base<=w.heap.size) (ho:∀ b,lv.ownBlock=some b->w.heap.size+2<=b ) (hAl:A<w.heap.size+2) (hk:Keep No w wr) {W:World}
  (hW:W=((((((wr.setCell ⟨A,0,none⟩ (.int .u64 n)).setCell ⟨A,1,none⟩ (.bool hd)).setCell ⟨A,2,none⟩ (.int .u64 first)).setCell ⟨A,3,none⟩ lv).setCell ⟨A,4,none⟩ (.bool tb)).setCell ⟨A,5,none⟩ (.int .i64 m))) :
  W.heap[A]?=some (.cells #[.int .u64 n,.bool hd,.int .u64 first,lv,.bool tb,.int .i64 m] t (0,0))/\Zp base W lv rs/\(∀ b,lv.ownBlock=some b->w.heap.size<=b)/\Keep No w W:=by
 obtain ⟨h1,k⟩:=set6_own hA (.int .u64 n) (.bool hd) (.int .u64 first) lv (.bool tb) (.int .i64 m)
 rw [<- hW] at h1 k
 have hF:Foot base wr (·=A):=by
  rintro b rfl
  exact ⟨Nat.le_trans hb hAw,Qt hA,fun cs fr e=>by rw [hA] at e;simp at e;rw [ht] at e;simp at e⟩
 exact ⟨h1,hr.keep hF k (fun b e1 e2=>by have:=ho b e1;have e2:b=A:=e2;omega),fun b e=>by have:=ho b e;omega,hk.absorb k (fun b e=>by have e:b=A:=e;omega)⟩
theorem sub_take {l q:Qs} {a:Nat} (h:l.drop a=q) (k:Nat) (b:Nat) (hb:b=a+k):(l.take b).drop a=q.take k:=by
 subst hb
 rw [List.drop_take,Nat.add_sub_cancel_left,h]
theorem sub_mid {l q:Qs} {a:Nat} (h:l.drop a=q) (k j:Nat) (b c:Nat) (hb:b=a+k) (hc:c=a+j):(l.take b).drop c=(q.take k).drop j:=by
 subst hb hc
 rw [<- h,List.drop_take,List.drop_take,List.drop_drop]
 congr 1
 omega
theorem rone_head [bn:Inhabited Ban] {base:Nat} {w:World} {pv:Value} {s:SegL} (hp:Qv base w pv s.bytes) (ho:s.Ok) (hd:s.headed=true) (hb:base<=w.heap.size) (hT:ban.top<=w.heap.size)
  (hrl:s.recs.length<=1000000) (hz:s.bytes.length<=1099511627776) :
  Calls Tryz.prog 175 #[.int .u64 s.n,pv] w (Sv base w s):=by
 obtain ⟨hf1,hf2,hr,ht⟩:=ho.head hd
 have hby:s.bytes=Xt s.first++(Xx s.recs++s.tail):=by unfold SegL.bytes;rw [hd];rfl
 have hc:∀ lv,Yo s lv=[.int .u64 s.n,.bool true,.int .u64 s.first,lv,.bool (!s.tail.isEmpty),.int .i64 s.bytes.length]:=fun lv=>by unfold Yo;rw [hd];simp
 unfold Sv
 simp only [hc]
 have hp0:=hp
 obtain ⟨po,pc,rfl⟩:=hp.form
 have hpc:s.bytes.length<=pc:=by obtain ⟨_,_,hq,h1,h2,_⟩:=hp0;simp at hq;omega
 have h12:12<=s.bytes.length:=by rw [hby,List.length_append,Zr];omega
 have bh:=hp0.take 12 h12
 have eh:s.bytes.take 12=Xt s.first:=by rw [hby,List.take_append_of_le_length (by rw [Zr];exact Nat.le_refl _),List.take_of_length_le (by rw [Zr];exact Nat.le_refl _)]
 rw [eh] at bh
 have hdrop:∀ j,s.bytes.drop (12+(Xx (s.recs.take j)).length)=Xx (s.recs.drop j)++s.tail:=fun j=>by
  rw [hby,<- List.drop_drop,List.drop_left' (Zr _)]
  conv=>lhs;rw [<- List.take_append_drop j s.recs,Kn,List.append_assoc]
  rw [List.take_append_drop,List.drop_left' rfl]
 have hkA:Keep No w ((w.alloc (.cells #[.int .u64 0,.bool false,.int .u64 0,.slice none 0 0,.bool false,.int .i64 0] 282)).alloc (.cells #[.int .u64 s.n,.bool false,.int .u64 0,.slice none 0 0,.bool false,.int .i64 s.bytes.length] 282)):=((Keep.refl _ _).alloc _).alloc _
 have hop:=rOpen_close (bh.no hkA) (Nat.le_trans hT hkA.size) (by rw [Zu];decide)
 have hm12:¬((s.bytes.length:Int)<12):=by omega
 have hpci:(12:Int)<=(pc:Int):=by omega
 have hdr:=hdrop
 have htl:(s.tail.length:Nat)<=s.bytes.length:=by rw [hby];simp;omega
 have hall:12+(Xx s.recs).length+s.tail.length=s.bytes.length:=by rw [hby,List.length_append,Zr,List.length_append];omega
 have HB:=Lib.hid (A10 hb hT hrl hr ht hdrop hall hp0 hpc hkA)
 have HF:=Lib.hid (A3 hf1 hf2 hz)
 clear hdrop hdr htl hall hr ht hb hT hrl hby hc hp hp0 hpc h12 bh eh ho hd hf1 hf2 hz
 generalize hm:s.bytes.length=m at *
 have HM:=Lib.hid hm
 clear hm
 generalize htb:(!s.tail.isEmpty)=tb
 have HTB:=Lib.hid htb
 clear htb
 go_enter Tryz.func175,Tryz.ntmps175
 go_upto_region 7 with (go_at_call 205;refine hop.mono ?_;rintro e w2 ⟨v2,rfl,own2,k2⟩)
 have hA2:=k2.heap (((Keep.refl No _).alloc (.cells #[.int .u64 s.n,.bool false,.int .u64 0,.slice none 0 0,.bool false,.int .i64 m] 282)).heap (Qy w (.cells #[.int .u64 0,.bool false,.int .u64 0,.slice none 0 0,.bool false,.int .i64 0] 282)) (fun e=>e)) (fun e=>e)
 have hB2:=k2.heap (Qy (w.alloc (.cells #[.int .u64 0,.bool false,.int .u64 0,.slice none 0 0,.bool false,.int .i64 0] 282)) (.cells #[.int .u64 s.n,.bool false,.int .u64 0,.slice none 0 0,.bool false,.int .i64 m] 282)) (fun e=>e)
 simp only [World.size_alloc] at hB2
 have hl8:(layB s.first 8).length=8:=Zu _ _
 have tk:=rTake_spec (own2.bytes (base:=base) (fun _=>Nat.le_trans HB.out.2.1 HB.out.2.2.2.2.2.2.2.2.2.size)) (by rw [hl8];decide)
 rw [Uf,Nat.mod_eq_of_lt (by have:=HF.out.2.1;omega)] at tk
 have e1:=Qq hB2 1
 have f1:=Qg hB2 1
 have e2:=Qq hB2 2
 have f2:=Qg hB2 2
 have hk2:=HB.out.2.2.2.2.2.2.2.2.2.then k2
 have hB3:=Qz (i:=2) (u:=.int .u64 s.first) (Qz (i:=1) (u:=.bool true) hB2)
 have k3:Keep (·=w.heap.size+1) w2 ((w2.setCell ⟨w.heap.size+1,1,none⟩ (.bool true)).setCell ⟨w.heap.size+1,2,none⟩ (.int .u64 s.first)) :=
  Keep.setCell (F:=(·=w.heap.size+1)) (Keep.setCell (F:=(·=w.heap.size+1)) (Keep.refl _ _) (p:=⟨w.heap.size+1,1,none⟩) (.inl rfl) _) (p:=⟨w.heap.size+1,2,none⟩) (.inl rfl) _
 have hA3:=k3.heap hA2 (fun e=>by have e:w.heap.size=w.heap.size+1:=e;omega)
 have hk3:=hk2.absorb k3 (fun b e=>by rw [e];exact Nat.le_succ _)
 have H3:=Lib.hid (A3 hB3 hA3 hk3)
 clear hB3 hA3 hk3 k3 hA2 hB2 hl8 own2 hop hk2
 simp at e1 e2
 go_upto_block 0 with (go_at_call 206;refine tk.mono ?_;rintro e w3 ⟨rfl,rfl⟩)
 obtain ⟨hB3,hA3,hk3⟩:=H3.out
 generalize ((w3.setCell ⟨w.heap.size+1,1,none⟩ (.bool true)).setCell ⟨w.heap.size+1,2,none⟩ (.int .u64 s.first))=w4 at *
 have hstart:R7In base w s m (.int .i64 12) w4:=⟨0,.slice none 0 0,Nat.zero_le _,rfl,hB3,hA3,⟨[],rfl,fun i u b h=>by simp at h,World.ownsRow_nil _ _ _ _⟩,by simp [Value.ownBlock],hk3⟩
 clear hB3 hA3 hk3 H3 e1 f1 e2 f2 tk
 go_wp2_with fail
 go_loopw [9] (fun av wr=>R7In base w s m av wr) (fun av _=>(m:Nat) - (intOf av).toNat)
 case atStart=>exact hstart
 case round =>
  clear hstart
  obtain ⟨j,lv,hj,rfl,hBr,hAr,hRr,hOr,hKr⟩:=hrel
  have hpr:=HB.out.2.2.2.2.2.2.2.1.no hKr
  have hdr:=HB.out.2.2.2.2.2.1 j
  by_cases hlt:j<s.recs.length
  ·have hrj:s.recs[j]?=some s.recs[j]:=List.getElem?_eq_getElem hlt
   have hrl:=HB.out.2.2.2.1 _ (List.getElem_mem hlt)
   have hdj:s.recs.drop j=s.recs[j] :: s.recs.drop (j+1):=List.drop_eq_getElem_cons hlt
   have htk:s.recs.take (j+1)=s.recs.take j++[s.recs[j]]:=by rw [List.take_add_one,hrj];rfl
   generalize s.recs[j]=r at *
   rw [hdj,recsB_cons,List.append_assoc] at hdr
   obtain ⟨q1,q2,q3,q4,q5,q6⟩:=rec_parts r (Xx (s.recs.drop (j+1))++s.tail) hrl
   have q7:(recB r++(Xx (s.recs.drop (j+1))++s.tail)).take (8+r.length)=recB r:=by
    rw [List.take_append_of_le_length (by rw [Zl];omega),List.take_of_length_le (by rw [Zl];omega)]
   have hnext:12+(Xx (s.recs.take (j+1))).length=12+(Xx (s.recs.take j)).length+8+r.length:=by
    rw [htk,Kn,List.length_append]
    have:Xx [r]=recB r:=by simp [Xx]
    rw [this,Zl];omega
   obtain ⟨a,ha⟩:∃ a,a=12+(Xx (s.recs.take j)).length:=⟨_,rfl⟩
   rw [<- ha] at hdr hnext ⊢
   have hlen:s.bytes.length-a=(recB r++(Xx (s.recs.drop (j+1))++s.tail)).length:=by rw [<- hdr,List.length_drop]
   generalize recB r++(Xx (s.recs.drop (j+1))++s.tail)=l1 at *
   have hm:=HM.out
   have hma:a+8+r.length<=m:=by omega
   have hpcm:=HB.out.2.2.2.2.2.2.2.2.1
   obtain ⟨o1,c1,run1,sub1⟩:=Ub po m pc a (a+4) (a:Int) ((a:Int)+4) rfl (by omega) (by omega) (by omega) hpcm
   have b4:=sub1 _ _ _ hpr
   rw [sub_take hdr 4 _ rfl] at b4
   have tk1:=rTake_spec b4 (by rw [List.length_take];omega)
   rw [q2] at tk1
   obtain ⟨o2,c2,run2,sub2⟩:=Ub po m pc (a+8) (a+8+r.length) ((a:Int)+8) ((a:Int)+8+(r.length:Int)) (by omega) (by omega) (by omega) hma hpcm
   have bq:=sub2 _ _ _ hpr
   rw [sub_mid hdr (8+r.length) 8 _ _ (by omega) rfl,q5] at bq
   obtain ⟨o3,c3,run3,sub3⟩:=Ub po m pc a (a+8+r.length) (a:Int) ((a:Int)+8+(r.length:Int)) (by omega) (by omega) (by omega) hma hpcm
   have bw:=sub3 _ _ _ hpr
   rw [sub_take hdr (8+r.length) _ (by omega),q7] at bw
   rw [show a+4-a=4 by omega] at run1 tk1
   rw [show a+8+r.length - (a+8)=r.length by omega] at run2 bq
   rw [show a+8+r.length-a=8+r.length by omega] at run3 bw
   have hjoin:=fun (w':World) (k:Keep No wr w')=>Xv (slices1 (bq.no k)) (by simp;omega)
   have hfl:[r].flatten=r:=by simp
   rw [hfl] at hjoin
   clear hfl
   have hsz:=HF.out.2.2
   have hi1:(a:Int)<(m:Int):=by omega
   have hi2:(m:Int)<=1099511627776:=by omega
   have hsub:(m:Int) - (a:Int)=(l1.length:Int):=by omega
   have hi3:¬((l1.length:Int)<8):=by omega
   have hi4:¬((1048576:Int)<(r.length:Int)):=by omega
   have hi5:(r.length:Int)<=1099511627776:=by omega
   have hi6:¬((l1.length:Int) - 8<(r.length:Int)):=by omega
   have hi7:(8:Int)<=(l1.length:Int):=by omega
   have hi8:(l1.length:Int)<=1099511627776:=by omega
   have hrjl:(s.recs.take j).length<=1099511627776:=by have:=HB.out.2.2.1;rw [List.length_take];omega
   generalize s.recs.take j=rj at *
   have HRJ:=Lib.hid hrjl
   clear hrjl
   have HJ:=Lib.hid (A6 hjoin bw bq hnext htk hlt)
   have HR:=Lib.hid (A6 hBr hAr hRr hOr hKr hrl)
   have HA:=Lib.hid (A3 ha hma hm)
   clear hjoin bw bq hnext htk hBr hAr hRr hOr hKr ha hma hm hsz hpcm sub1 sub2 sub3 b4 q1 q2 q3 q4 q5 q6 q7 hlen hdj hrj hrl hdr hpr hlt hj
   generalize l1.length=m1 at *
   go_upto_region 19 with (go_at_call 206;refine tk1.mono ?_;rintro e w5 ⟨rfl,rfl⟩)
   go_upto_region 20 with (go_at_call 97;refine (HJ.out.1 _ (Keep.refl _ _)).mono ?_;rintro e w6 ⟨v6,rfl,own6,k6'⟩;have k6:=((Keep.refl No w5).alloc _).then k6')
   have b6:=own6.bytes (base:=base) (fun _=>Nat.le_trans HB.out.2.1 (Nat.le_trans HR.out.2.2.2.2.1.size (by simp)))
   obtain ⟨o6,c6,rfl⟩:=own6.form
   have hrec:=fun (w':World) (k:Keep No w6 w')=>rRecord_spec (b6.no k) (Nat.le_trans HB.out.2.1 ((HR.out.2.2.2.2.1.then k6).then k).size) (Nat.le_trans HR.out.2.2.2.2.2 (by decide))
   have H6:=Lib.hid (A2 b6 hrec)
   clear b6 hrec own6 k6'
   have hw1:IntKind.i64.wrap ((a:Int)+8)=(a:Int)+8:=IntWalk.i64_in _ (by omega)
   have hw2:IntKind.i64.wrap (r.length:Int)=(r.length:Int):=IntWalk.i64_in _ (by omega)
   have hw3:IntKind.i64.wrap ((a:Int)+8+(r.length:Int))=(a:Int)+8+(r.length:Int):=IntWalk.i64_in _ (by omega)
   refine Ql (fun w'=>Keep No w6 w') [0,1,2,3,4,5,6,7,8] [9,10] [11] (by kernel_rfl) (by kernel_rfl) (fun _ _ _ _ _ h=>h) (Keep.refl _ _).drew ?_
   have kd:Keep No w6 w6.drew:=(Keep.refl _ _).drew
   iterate 9 (refine Qk (v:=?_) rfl rfl rfl ?_ ?_;rotate_left;focus (
    intro w' hq
    go_simp
    try with_reducible rfl))
   refine Qj ?_
   refine Qx rfl rfl (fun K hK=>?_)
   go_simp
   refine (H6.out.2 _ kd).mono ?_
   rintro e w7 ⟨v7,rfl,own7,k7⟩
   have b7:=own7.bytes (base:=base) (fun _=>Nat.le_trans HB.out.2.1 ((HR.out.2.2.2.2.1.then k6).then kd).size)
   have kd:=kd.then k7
   refine hK _ _ kd ?_
   clear hK K
   refine Qx rfl rfl (fun K hK=>?_)
   go_simp
   refine (r1same_spec (HJ.out.2.1.no (k6.then kd)) b7).mono ?_
   rintro e w8 ⟨he,k8⟩
   rw [beq_self_eq_true] at he
   subst he
   have kd:=kd.then k8
   refine hK _ _ kd ?_
   clear hK K
   refine Qh (Qu rfl (Qm ?_))
   have k8w:=k6.then kd
   have hB8:=k8w.heap HR.out.1 (fun e=>e)
   have hL8:=HR.out.2.2.1.keep (Foot.no _ _) k8w (fun _ _ e=>e)
   have hb8:=H6.out.1.no kd
   have e3:=Qq hB8 3
   simp at e3
   obtain ⟨lo,lc,rfl,hlc1,hlc2⟩:=hL8.form
   clear own7 b7 k7 k8 kd hw1 hw2 hw3 run1 run2 run3 tk1
   have hnB:¬(Value.slice lo rj.length lc).ownBlock=some (w.heap.size+1):=fun e=>by have:=HR.out.2.2.2.1 _ e;omega
   have kA:Keep No w8 (w8.alloc (.cells #[.slice o6 r.length c6] 59)):=(Keep.refl _ _).alloc _
   have hLA:=hL8.keep (Foot.no _ _) kA (fun _ _ e=>e)
   have hBA:=kA.heap hB8 (fun e=>e)
   have hbx:=Qy w8 (.cells #[.slice o6 r.length c6] 59)
   have hbA:=hb8.no kA
   have hsz8:=(HR.out.2.2.2.2.1.then (k8w.then kA)).size
   have hl8:=HRJ.out
   have H8:=Lib.hid (A4 k8w kA hsz8 hl8)
   have HL:=Lib.hid (A3 hLA hbA hbx)
   clear hL8 hb8 k8w kA hsz8 hl8 hLA hbA hbx k6 hlc1 hlc2 hB8
   go_upto_region 23 with (at_builtin;refine wpList_append_rec rfl _ _ rfl HL.out.1 rfl HL.out.2.2 rfl HL.out.2.1 H8.out.2.2.2 (Nat.le_trans HB.out.1 H8.out.2.2.1) ?_;intro v9 w9 hL9 k9 o9;obtain ⟨lo9,lc9,ev,_,_⟩:=hL9.form;rw [List.length_append,List.length_singleton] at ev;subst ev;have hB9:=k9.heap hBA hnB;have f9:=Qg hB9 3;have e9:=Qq hB9 3;simp at e9)
   have hF9:Foot base w9 (·=w.heap.size+1):=by
    rintro b rfl
    exact ⟨Nat.le_trans HB.out.1 (Nat.le_succ _),Qt hB9,fun cs fr e=>by rw [hB9] at e;simp at e⟩
   have hnB9:∀ b,(Value.slice lo9 (rj.length+1) lc9).ownBlock=some b->w.heap.size+2<=b:=fun b hb=>by
    rcases o9 b hb with h | h
    ·exact HR.out.2.2.2.1 b h
    ·have h1:=(HR.out.2.2.2.2.1.then H8.out.1).size
     have h2:=H8.out.2.1.size
     have h3:=Qt HR.out.1
     have h4:=H8.out.1.size
     omega
   have kS:Keep (·=w.heap.size+1) w9 (w9.setCell ⟨w.heap.size+1,3,none⟩ (.slice lo9 (rj.length+1) lc9)):=Keep.setCell (F:=(·=w.heap.size+1)) (Keep.refl _ _) (p:=⟨w.heap.size+1,3,none⟩) (.inl rfl) _
   have hB10:=Qz (i:=3) (u:=.slice lo9 (rj.length+1) lc9) hB9
   have hL10:=hL9.keep hF9 kS (fun b hb e=>by have:=hnB9 b hb;have e:b=w.heap.size+1:=e;omega)
   have hA9:=k9.heap (H8.out.2.1.heap (H8.out.1.heap HR.out.2.1 (fun e=>e)) (fun e=>e)) (fun e=>by have:=HR.out.2.2.2.1 _ e;omega)
   have hA10:=kS.heap hA9 (fun e=>by have e:w.heap.size=w.heap.size+1:=e;omega)
   have hk9:Keep No w w9:=(HR.out.2.2.2.2.1.then (H8.out.1.then H8.out.2.1)).absorb k9 (fun b e=>by have:=HR.out.2.2.2.1 _ e;omega)
   have hk10:=hk9.absorb kS (fun b e=>by rw [e];exact Nat.le_succ _)
   have HZ:=Lib.hid (A5 hB10 hL10 hA10 hk10 hnB9)
   clear hF9 kS hB10 hL10 hA9 hA10 hk9 hk10 hnB9 hB9 f9 e9
   have hw1:IntKind.i64.wrap (8+(r.length:Int))=8+(r.length:Int):=IntWalk.i64_in _ (by omega)
   go_wp2
   go_roundw
   case rel =>
    refine ⟨j+1,_,HJ.out.2.2.2.2.2,?_,HZ.out.1,HZ.out.2.2.1,by rw [HJ.out.2.2.2.2.1];exact HZ.out.2.1,HZ.out.2.2.2.2,HZ.out.2.2.2.1⟩
    rw [HJ.out.2.2.2.1]
    go_num
   case measure =>
    have:=HA.out.2.1
    simp [intOf]
    omega
  ·obtain rfl:j=s.recs.length:=by omega
   have hm:=HM.out
   have hall:=HB.out.2.2.2.2.2.2.1
   have htail:=HB.out.2.2.2.2.1
   have hsz:=HF.out.2.2
   have hpcm:=HB.out.2.2.2.2.2.2.2.2.1
   rw [List.take_length] at *
   rw [List.drop_length] at hdr
   have hdr:s.bytes.drop (12+(Xx s.recs).length)=s.tail:=hdr
   obtain ⟨a,ha⟩:∃ a,a=12+(Xx s.recs).length:=⟨_,rfl⟩
   rw [<- ha] at hdr hall ⊢
   have hi2:(m:Int)<=1099511627776:=by omega
   obtain ⟨lo,lc,rfl,hlc1,hlc2⟩:=hRr.form
   have HR:=Lib.hid (A3 hRr hOr hKr)
   clear hlc1 hlc2
   by_cases ht0:s.tail=[]
   ·have hte:tb=false:=by rw [<- HTB.out,ht0];rfl
    subst hte
    have hi1:¬((a:Int)<(m:Int)):=by rw [ht0] at hall;simp at hall;omega
    have b0:=Qq hBr 0
    have b1:=Qq hBr 1
    have b2:=Qq hBr 2
    have b3:=Qq hBr 3
    have b4:=Qq hBr 4
    have b5:=Qq hBr 5
    have a0:=Qq hAr 0
    have a1:=Qq hAr 1
    have a2:=Qq hAr 2
    have a3:=Qq hAr 3
    have a4:=Qq hAr 4
    have a5:=Qq hAr 5
    have f0:=Qg hAr 0
    have f1:=Qg hAr 1
    have f2:=Qg hAr 2
    have f3:=Qg hAr 3
    have f4:=Qg hAr 4
    have f5:=Qg hAr 5
    simp at b0 b1 b2 b3 b4 b5 a0 a1 a2 a3 a4 a5
    have HAB:=Lib.hid (A2 hAr hBr)
    clear ht0 hsz hpcm htail hall hm hdr hpr ha hlt hj hRr hOr hKr hAr hBr
    go_wp2
    obtain ⟨z1,z2,z3,z4⟩:=r7_out HAB.out.1 (Nat.le_refl _) HR.out.1 rfl HB.out.1 HR.out.2.1 (by omega) HR.out.2.2 rfl
    refine bodyPost_ret (v:=.tuple #[.agg #[.int .u64 s.n,.bool true,.int .u64 s.first,.slice lo s.recs.length lc,.bool false,.int .i64 m],.int .i64 0]) ?_ rfl ⟨_,rfl,z2,z3,z4⟩
    clear z2 z3 z4
    have g0:=Qq z1 0
    have g1:=Qq z1 1
    have g2:=Qq z1 2
    have g3:=Qq z1 3
    have g4:=Qq z1 4
    have g5:=Qq z1 5
    clear z1
    generalize (((((wr.setCell ⟨w.heap.size,0,none⟩ _).setCell ⟨w.heap.size,1,none⟩ _).setCell ⟨w.heap.size,2,none⟩ _).setCell ⟨w.heap.size,3,none⟩ _).setCell ⟨w.heap.size,4,none⟩ _).setCell ⟨w.heap.size,5,none⟩ _=W at *
    simp at g0 g1 g2 g3 g4 g5
    simp [results,Tryz.results175,go_sem,g0,g1,g2,g3,g4,g5]
   ·
    have htb:tb=true:=by rw [<- HTB.out];cases hq:s.tail with | nil=>exact absurd hq ht0 | cons x t=>rfl
    subst htb
    have htl:0<s.tail.length:=by cases hq:s.tail with | nil=>exact absurd hq ht0 | cons x t=>simp
    have hi1:(a:Int)<(m:Int):=by omega
    have hsub:(m:Int) - (a:Int)=(s.tail.length:Int):=by omega
    have hB2:=Qz (i:=4) (u:=.bool true) hBr
    have kT:Keep (·=w.heap.size+1) wr (wr.setCell ⟨w.heap.size+1,4,none⟩ (.bool true)):=Keep.setCell (F:=(·=w.heap.size+1)) (Keep.refl _ _) (p:=⟨w.heap.size+1,4,none⟩) (.inl rfl) _
    have hA2:=kT.heap hAr (fun e=>by have e:w.heap.size=w.heap.size+1:=e;omega)
    have hFT:Foot base wr (·=w.heap.size+1):=by
     rintro b rfl
     exact ⟨Nat.le_trans HB.out.1 (Nat.le_succ _),Qt hBr,fun cs fr e=>by rw [hBr] at e;simp at e⟩
    have hR2:=hRr.keep hFT kT (fun b e1 e2=>by have:=hOr b e1;have e2:b=w.heap.size+1:=e2;omega)
    have hK2:=hKr.absorb kT (fun b e=>by rw [e];exact Nat.le_succ _)
    have c4:=Qq hBr 4
    have f4':=Qg hBr 4
    simp at c4
    have HX:=Lib.hid (A4 hB2 hA2 hR2 hK2)
    clear hB2 hA2 hR2 hK2 kT hFT hAr hBr hRr hOr hKr
    by_cases h8:s.tail.length<8
    ·have h8i:(s.tail.length:Int)<8:=by omega
     clear ht0 hsz hpcm htail hall hm hdr hpr ha hlt hj h8 htl
     go_upto_region 12 with fail
     obtain ⟨hB2,hA2,hR2,hK2⟩:=HX.out
     clear c4 f4'
     generalize wr.setCell ⟨w.heap.size+1,4,none⟩ (.bool true)=w12 at *
     have a0:=Qq hA2 0
     have a1:=Qq hA2 1
     have a2:=Qq hA2 2
     have a3:=Qq hA2 3
     have a4:=Qq hA2 4
     have a5:=Qq hA2 5
     have f0:=Qg hA2 0
     have f1:=Qg hA2 1
     have f2:=Qg hA2 2
     have f3:=Qg hA2 3
     have f4:=Qg hA2 4
     have f5:=Qg hA2 5
     have b0:=Qq hB2 0
     have b1:=Qq hB2 1
     have b2:=Qq hB2 2
     have b3:=Qq hB2 3
     have b4:=Qq hB2 4
     have b5:=Qq hB2 5
     simp at b0 b1 b2 b3 b4 b5 a0 a1 a2 a3 a4 a5
     have HAB:=Lib.hid (A3 hA2 hR2 hK2)
     clear hA2 hB2 hR2 hK2 HX
     go_wp2
     obtain ⟨z1,z2,z3,z4⟩:=r7_out HAB.out.1 (Nat.le_refl _) HAB.out.2.1 rfl HB.out.1 HR.out.2.1 (by omega) HAB.out.2.2 rfl
     refine bodyPost_ret (v:=.tuple #[.agg #[.int .u64 s.n,.bool true,.int .u64 s.first,.slice lo s.recs.length lc,.bool true,.int .i64 m],.int .i64 0]) ?_ rfl ⟨_,rfl,z2,z3,z4⟩
     clear z2 z3 z4
     have g0:=Qq z1 0
     have g1:=Qq z1 1
     have g2:=Qq z1 2
     have g3:=Qq z1 3
     have g4:=Qq z1 4
     have g5:=Qq z1 5
     clear z1
     generalize (((((w12.setCell ⟨w.heap.size,0,none⟩ _).setCell ⟨w.heap.size,1,none⟩ _).setCell ⟨w.heap.size,2,none⟩ _).setCell ⟨w.heap.size,3,none⟩ _).setCell ⟨w.heap.size,4,none⟩ _).setCell ⟨w.heap.size,5,none⟩ _=W at *
     simp at g0 g1 g2 g3 g4 g5
     simp [results,Tryz.results175,go_sem,g0,g1,g2,g3,g4,g5]
    ·rcases htail with htail | ⟨ht1,ht2⟩
     ·exact absurd htail h8
     ·have h8i:¬((s.tail.length:Int)<8):=by omega
      obtain ⟨o1,c1,run1,sub1⟩:=Ub po m pc a (a+4) (a:Int) ((a:Int)+4) rfl (by omega) (by omega) (by omega) hpcm
      have b4:=sub1 _ _ _ hpr
      rw [sub_take hdr 4 _ rfl] at b4
      have tk1:=rTake_spec b4 (by rw [List.length_take];omega)
      rw [show a+4-a=4 by omega] at run1 tk1
      generalize takeN (s.tail.take 4)=n at *
      have hn1:¬((1048576:Int)<(n:Int)):=by omega
      have hn2:(n:Int)<=1099511627776:=by omega
      have hn3:(s.tail.length:Int) - 8<(n:Int):=by omega
      have hn4:(8:Int)<=(s.tail.length:Int):=by omega
      have hn5:(s.tail.length:Int)<=1099511627776:=by omega
      clear ht0 hsz hpcm hall hm hdr hpr ha hlt hj h8 htl ht1 ht2 sub1 b4
      go_upto_region 18 with (go_at_call 206;refine tk1.mono ?_;rintro e w5 ⟨rfl,rfl⟩)
      obtain ⟨hB2,hA2,hR2,hK2⟩:=HX.out
      clear c4 f4'
      generalize w5.setCell ⟨w.heap.size+1,4,none⟩ (.bool true)=w12 at *
      have a0:=Qq hA2 0
      have a1:=Qq hA2 1
      have a2:=Qq hA2 2
      have a3:=Qq hA2 3
      have a4:=Qq hA2 4
      have a5:=Qq hA2 5
      have f0:=Qg hA2 0
      have f1:=Qg hA2 1
      have f2:=Qg hA2 2
      have f3:=Qg hA2 3
      have f4:=Qg hA2 4
      have f5:=Qg hA2 5
      have b0:=Qq hB2 0
      have b1:=Qq hB2 1
      have b2:=Qq hB2 2
      have b3:=Qq hB2 3
      have b4:=Qq hB2 4
      have b5:=Qq hB2 5
      simp at b0 b1 b2 b3 b4 b5 a0 a1 a2 a3 a4 a5
      have HAB:=Lib.hid (A3 hA2 hR2 hK2)
      clear hA2 hB2 hR2 hK2 HX
      go_wp2
      obtain ⟨z1,z2,z3,z4⟩:=r7_out HAB.out.1 (Nat.le_refl _) HAB.out.2.1 rfl HB.out.1 HR.out.2.1 (by omega) HAB.out.2.2 rfl
      refine bodyPost_ret (v:=.tuple #[.agg #[.int .u64 s.n,.bool true,.int .u64 s.first,.slice lo s.recs.length lc,.bool true,.int .i64 m],.int .i64 0]) ?_ rfl ⟨_,rfl,z2,z3,z4⟩
      clear z2 z3 z4
      have g0:=Qq z1 0
      have g1:=Qq z1 1
      have g2:=Qq z1 2
      have g3:=Qq z1 3
      have g4:=Qq z1 4
      have g5:=Qq z1 5
      clear z1
      generalize (((((w12.setCell ⟨w.heap.size,0,none⟩ _).setCell ⟨w.heap.size,1,none⟩ _).setCell ⟨w.heap.size,2,none⟩ _).setCell ⟨w.heap.size,3,none⟩ _).setCell ⟨w.heap.size,4,none⟩ _).setCell ⟨w.heap.size,5,none⟩ _=W at *
      simp at g0 g1 g2 g3 g4 g5
      simp [results,Tryz.results175,go_sem,g0,g1,g2,g3,g4,g5]
end Go.Proofs.YtfdmbomlkpkegaaGreat
