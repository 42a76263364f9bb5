/- Lemmas for ReceiverNil. -/
import Derived.Test.YtfdmbomlkpkegaaGreatS29
import Derived.Test.YtfdmbomlkpkegaaGreatS27
import Derived.Laws.Tables
import Derived.Laws.Rows
import Derived.Test.YtfdmbomlkpkegaaGreatS1
import Derived.Test.YtfdmbomlkpkegaaGreatS23
import Derived.Test.YtfdmbomlkpkegaaGreatS24
import Derived.Test.YtfdmbomlkpkegaaGreatS30
set_option maxRecDepth 100000
set_option maxHeartbeats 8000000
set_option linter.all false
namespace Go.Proofs.YtfdmbomlkpkegaaGreat
open Go Go.RowKit Go.Dr
def stCells (inc:Nat) (fl:List Nat) (ws:List (Nat × Nat × Value)) (lv:Value):List Value:=.int .u64 inc :: (fl.map u64v++(ws.flatMap (fun x=>[u64v x.1,u64v x.2.1,x.2.2])++[lv]))
def stW0 (width k:Nat):List (Nat × Nat × Value):=List.replicate k (0,width,.slice none 0 0)++List.replicate (16-k) (0,0,.slice none 0 0)
def Yt (width k:Nat):List Value:=stCells 0 (List.replicate 16 0) (stW0 width k) (.slice none 0 0)
theorem state_zero:Tryz.zeroCells168=(Yt 0 0).toArray:=by kernel_rfl
theorem stStart_size (width k:Nat) (hk:k<=16):(Yt width k).length=66:=by
 have h:(stW0 width k).length=16:=by unfold stW0;simp;omega
 unfold Yt stCells
 rw [List.length_cons,List.length_append,List.length_append,List.length_map,flatMap_len (fun x:Nat × Nat × Value=>[u64v x.1,u64v x.2.1,x.2.2]) 3 (fun _=>rfl),h]
 simp
theorem stStart_set (width k:Nat) (hk:k<16):(Yt width k).set (17+k*3+1) (.int .u64 width)=Yt width (k+1):=by
 match k,hk with
 | 0,_=>rfl
 | 1,_=>rfl
 | 2,_=>rfl
 | 3,_=>rfl
 | 4,_=>rfl
 | 5,_=>rfl
 | 6,_=>rfl
 | 7,_=>rfl
 | 8,_=>rfl
 | 9,_=>rfl
 | 10,_=>rfl
 | 11,_=>rfl
 | 12,_=>rfl
 | 13,_=>rfl
 | 14,_=>rfl
 | 15,_=>rfl
 | k+16,hk=>omega
theorem stStart_at (width k:Nat) (hk:k<16):∃ u,(Yt width k)[17+k*3+1]?=some u:=by
 have h:=stStart_size width k (by omega)
 exact ⟨_,List.getElem?_eq_getElem (by omega)⟩
theorem stStart_one (width k:Nat):(Yt width k).toArray.all (·.oneCell')=true:=by
 unfold Yt stCells stW0
 simp [u64v,Value.oneCell',List.all_append]
structure Jg [bn:Inhabited Ban] (base:Nat) (w:World) (p q:Nat) (lv:Value) (x:Qn) (width:Nat) (size safe:Int):Prop where
 blk:w.heap[p]?=some (.cells #[.pointer (some ⟨q,0,none⟩),.int .u64 width,.int .i64 size,.int .i64 safe] 157 (0,0))
 rdisk:Zs base w q lv x
 pb:base<=p
theorem Jg.no [bn:Inhabited Ban] {base:Nat} {w w':World} {p q:Nat} {lv:Value} {x:Qn} {width:Nat} {size safe:Int} (h:Jg base w p q lv x width size safe) (k:Keep No w w'):Jg base w' p q lv x width size safe :=
 ⟨k.heap h.blk (fun e=>e),h.rdisk.no k,h.pb⟩
structure StLaw (base:Nat) (St:Nat->World->Array Value->Prop):Prop where
 size:∀ k w cs,St k w cs->cs.size=66/\cs.all (·.oneCell')=true
 keep:∀ k a b cs F,St k a cs->Keep F a b->(∀ x,F x->base<=x/\∃ cs',a.heap[x]?=some (.cells cs' 168 (0,0)))->St k b cs
theorem Jl {P:Program} {fn:Func} {p r:Tmp} {ty:TypeId} (h:fn.results=#[.cell p ty,.tmp r]) (tmps:Array Value) (w:World) (g:Nat) (t:TypeId) (cs:Array Value) (fr:Nat × Nat) (d:TypeDesc) (v:Value)
  (hp:tmps.getD p undef=.pointer (some ⟨g,0,none⟩)) (hr:tmps.getD r undef=v) (hg:w.heap[g]?=some (.cells cs t fr))
  (hu:P.underlying ty=some d) (hd:(match d with | .struct _ | .array _ _=>true | _=>false)=true) (hi:(P.info? ty).map (·.size)=some cs.size) :
  (results fn tmps).run P w=.ok (.tuple #[.agg cs,v]) w:=by
 have hp':tmps[p]?.getD undef=.pointer (some ⟨g,0,none⟩):=by simpa using hp
 have hr':tmps[r]?.getD undef=v:=by simpa using hr
 simp [results,h,hp',hr',asAddr,run_loadVar_row w g t ty cs fr d hg hu hd hi]
def Ra (n:Int) (m:Nat):Nat:=if n<0 then m else min n.toNat m
theorem Zi (w:World) (g:Nat) (cs:Array Value):Keep (·=g) w (w.setRow g cs) :=
 ⟨rfl,rfl,rfl,by simp [World.setRow],fun b _ hn=>setRow_other w g b cs hn⟩
theorem info_state:(Tryz.prog.info? 168).map (·.size)=some 66:=by kernel_rfl
theorem r16Told_spec [bn:Inhabited Ban] {base:Nat} {w:World} {p q:Nat} {lv:Value} {x:Qn} {width:Nat} {size safe:Int} {ss:List SegL} {St:Nat->World->Array Value->Prop} (h:Jg base w p q lv x width size safe) (hb:base<=w.heap.size) (hT:ban.top<=w.heap.size)
  (hl:x.l.length<=1000) (hs:wsum x.l<=1099511627776) (hm:segs6 x.l=segMap ss) (ho:Hs ss) (hrec:(Qw ss).length<=400000) (n:Int) (hn:-9223372036854775808<=n/\n<=9223372036854775807) (hL:StLaw base St)
  (h0:∀ w',Keep No w w'->St 0 w' (Yt width 16).toArray)
  (hone:∀ (k:Nat) (r:Qs) (w':World) (cs:Array Value) (pv:Value),(Qw ss)[k]?=some r->Keep No w w'->St k w' cs->Qv base w' pv r ->
   Calls Tryz.prog 127 #[.agg cs,pv] w' fun e w2=>∃ cs',e=.returned (.tuple #[.agg cs',.bool true])/\St (k+1) w2 cs'/\Keep No w' w2) :
  Calls Tryz.prog 74 #[.pointer (some ⟨p,0,none⟩),.int .i64 n] w fun e w'=>∃ cs,e=.returned (.tuple #[.agg cs,.int .i64 0])/\St (Ra n (Qw ss).length) w' cs/\Keep No w w':=by
 have cp:=fun i=>Qq h.blk i
 have c0:=cp 0
 have c1:=cp 1
 simp at c0 c1
 obtain ⟨rs,hrs⟩:∃ rs,rs=Qw ss:=⟨_,rfl⟩
 rw [<- hrs] at hrec hone ⊢
 have HH:=Lib.hid (A12 h hb hT hl hs hm ho hrec hn hL h0 hone)
 have HS:=Lib.hid hrs
 clear h hb hT hl hs hm ho hrec hn hL h0 hone cp hrs
 go_enter Tryz.func74,Tryz.ntmps74
 go_upto_region 3 with fail
 rw [state_zero]
 obtain ⟨W,hW⟩:∃ W,W=(w.alloc (.cells (Yt 0 0).toArray 168)).alloc (.cells (Yt 0 0).toArray 168):=⟨_,rfl⟩
 have hz4:W.heap[w.heap.size]?=some (.cells (Yt 0 0).toArray 168 (0,0)):=by
  rw [hW]
  exact ((Keep.refl No _).alloc _).heap (Qy w _) (fun e=>e)
 have hz6:W.heap[w.heap.size+1]?=some (.cells (Yt width 0).toArray 168 (0,0)):=by
  rw [hW]
  have:=Qy (w.alloc (.cells (Yt 0 0).toArray 168)) (.cells (Yt 0 0).toArray 168)
  rw [World.size_alloc] at this
  exact this
 have kW:Keep No w W:=by rw [hW];exact ((Keep.refl _ _).alloc _).alloc _
 rw [<- hW]
 clear hW
 have hpl:p<w.heap.size:=Qt HH.out.1.blk
 have hp4:¬p=w.heap.size:=by omega
 have hp6:¬p=w.heap.size+1:=by omega
 have c0:=kW.cell c0 (fun e=>e)
 have c1:=kW.cell c1 (fun e=>e)
 obtain ⟨b6,hb6⟩:∃ b6,b6=w.heap.size+1:=⟨_,rfl⟩
 rw [<- hb6] at hz6 hp6 ⊢
 have hz4n:¬w.heap.size=b6:=by omega
 have HW:=Lib.hid (A4 hz4 kW hb6 hpl)
 clear kW hb6 hpl
 go_wp2_with fail
 go_loopw [13] (fun v13 wr=>∃ k,v13=.int .i64 (k:Nat)/\k<=16/\wr.heap[b6]?=some (.cells (Yt width k).toArray 168 (0,0))/\Keep (·=b6) W wr) (fun v13 _=>16 - (intOf v13).toNat)
 case atStart=>exact ⟨0,rfl,Nat.zero_le _,hz6,Keep.refl _ _⟩
 case round =>
  obtain ⟨k,rfl,hk,hz,kr⟩:=hrel
  have c0:=kr.cell c0 hp6
  have c1:=kr.cell c1 hp6
  by_cases hlt:k<16
  ·have hki:(k:Int)<16:=by omega
   obtain ⟨u,hu⟩:=stStart_at width k hlt
   have cu:=Qq hz (17+k*3+1)
   rw [List.getElem?_toArray,hu] at cu
   have fu:=Qg hz (17+k*3+1)
   have hs:=Qz (i:=17+k*3+1) (u:=.int .u64 width) hz
   rw [List.setIfInBounds_toArray,stStart_set width k hlt] at hs
   have ks:Keep (·=b6) W (wr.setCell ⟨b6,17+k*3+1,none⟩ (.int .u64 width)):=kr.setCell (.inl rfl) _
   have HR:=Lib.hid (A3 hs ks hlt)
   clear hs ks hlt hz hu hk kr hz6 hz4
   go_wp2_with fail
   go_roundw
   case rel=>exact ⟨k+1,by congr 1,by have:=HR.out.2.2;omega,HR.out.1,HR.out.2.1⟩
   case measure=>have:=HR.out.2.2;simp [intOf];omega
  ·have hke:k=16:=by omega
   subst hke
   have HR:=Lib.hid (A2 hz kr)
   clear hz kr hk hlt hz6 hz4
   have kw:Keep No w wr:=HW.out.2.1.trans HR.out.2 (fun c hc e=>by have:=HW.out.2.2.1;have e:c=b6:=e;omega)
   have hrd:=rRead_spec (HH.out.1.rdisk.no kw) (Nat.le_trans HH.out.2.1 kw.size) (Nat.le_trans HH.out.2.2.1 kw.size) HH.out.2.2.2.1 HH.out.2.2.2.2.1 HH.out.2.2.2.2.2.1 HH.out.2.2.2.2.2.2.1
   have hz6r:=HR.out.1
   have HK:=Lib.hid kw
   clear kw
   go_upto_region 9 with (go_at_call 125;refine hrd.mono ?_;rintro e w1 ⟨v1,rfl,h71,_,k1⟩)
   have hall:=rAll_spec h71 (Nat.le_trans HH.out.2.1 (HK.out.then k1).size) HH.out.2.2.2.2.2.2.1.few (by rw [<- HS.out];exact HH.out.2.2.2.2.2.2.2.1)
   rw [<- HS.out] at hall
   have hz61:=k1.heap hz6r (fun e=>e)
   have HA:=Lib.hid k1
   clear hrd h71 k1
   refine hall.mono ?_
   rintro e w2 ⟨v2,rfl,hrl,k2⟩
   have hz62:=k2.heap hz61 (fun e=>e)
   have k02:=(HK.out.then HA.out).then k2
   have hz42:w2.heap[w.heap.size]?=some (.cells (Yt 0 0).toArray 168 (0,0)):=(HA.out.then k2).heap (HR.out.2.heap HW.out.1 hz4n) (fun e=>e)
   obtain ⟨o2,cap2,rfl,_,_⟩:=hrl.form
   have hst0:=HH.out.2.2.2.2.2.2.2.2.2.2.1 w2 k02
   have hlen:=HH.out.2.2.2.2.2.2.2.1
   have hli:(rs.length:Int)<=400000:=by omega
   have HL:=Lib.hid (A6 hrl k02 hz42 hz62 hst0 hlen)
   clear hall hrl k2 hz42 hst0 hlen hz61 hz6r k02
   go_upto_region 10 with fail
   go_wp2_with fail
   go_loopw [40] (fun v40 wr=>∃ k cs,v40=.int .i64 (k:Nat)/\k<=rs.length/\(n<0\/(k:Int)<=n)/\wr.heap[b6]?=some (.cells cs 168 (0,0))/\St k wr cs/\Keep (·=b6) w2 wr) (fun v40 _=>rs.length - (intOf v40).toNat)
   case atStart=>exact ⟨0,_,rfl,Nat.zero_le _,by omega,HL.out.2.2.2.1,HL.out.2.2.2.2.1,Keep.refl _ _⟩
   case round =>
    obtain ⟨k,cs,rfl,hk,hkn,hz,hst,kr⟩:=hrel
    obtain ⟨hsz,hone⟩:=HH.out.2.2.2.2.2.2.2.2.2.1.size _ _ _ hst
    have hinf:(Tryz.prog.info? 168).map (·.size)=some cs.size:=by rw [hsz];exact info_state
    by_cases hA:k<rs.length/\(n<0\/(k:Int)<n)
    ·obtain ⟨hlt,hn⟩:=hA
     have hx:rs[k]?=some rs[k]:=List.getElem?_eq_getElem hlt
     generalize rs[k]=r at hx
     obtain ⟨g,u,hgo,cu,bu⟩:=HL.out.1.cell hx
     subst hgo
     obtain ⟨uo,uc,rfl⟩:=bu.form
     have hgb:¬g=b6:=fun e=>by
      subst e
      obtain ⟨us,_,_,hrr⟩:=HL.out.1
      obtain ⟨_,cur,hz'⟩:=Qa hrr g (by rfl)
      rw [HL.out.2.2.2.1] at hz'
      simp at hz'
     have cu:=kr.cell cu hgb
     have hki:(k:Int)<(rs.length:Int):=by omega
     have hk2:=Nat.succ_le_of_lt hlt
     have kk:=HL.out.2.1.trans kr (fun c hc e=>by have:=HW.out.2.2.1;have e:c=b6:=e;omega)
     have hFb:Foot base w2 (·=b6):=fun b e=>by
      have e:b=b6:=e
      subst e
      have h1:=HW.out.2.2.1
      have h2:=HH.out.2.1
      exact ⟨by omega,Qt HL.out.2.2.2.1,fun cs fr e=>by rw [HL.out.2.2.2.1] at e;simp at e⟩
     have hcall:=HH.out.2.2.2.2.2.2.2.2.2.2.2 k r wr cs _ hx kk hst (bu.keep hFb kr)
     have HE:=Lib.hid (A4 hlt hn kk kr)
     clear hst kk kr hlt hx bu hk hkn hFb
     have hge:0<=n/\¬n<=(k:Int)\/¬0<=n:=by rcases hn with h | h <;> omega
     clear hn
     rcases hge with ⟨q1,q2⟩ | q1
     all_goals
      go_upto_region 14 with fail
      go_upto_region 15 with fail
      go_wp2_with (refine wpList_load_row rfl 168 _ rfl b6 rfl 168 cs (0,0) _ hz Tryz.underlying168 rfl hinf ?_)
      refine hcall.mono ?_
      rintro e w3 ⟨cs',rfl,hst3,k3⟩
      have hz3:=k3.heap hz (fun e=>e)
      obtain ⟨hsz3,hone3⟩:=HH.out.2.2.2.2.2.2.2.2.2.1.size _ _ _ hst3
      have hinf3:(Tryz.prog.info? 168).map (·.size)=some cs'.size:=by rw [hsz3];exact info_state
      have hss:cs.size=cs'.size:=by rw [hsz,hsz3]
      have hst4:=HH.out.2.2.2.2.2.2.2.2.2.1.keep _ _ _ _ (·=b6) hst3 (Zi w3 b6 cs') (fun x e=>by have e:x=b6:=e;subst e;exact ⟨by have h1:=HW.out.2.2.1;have h2:=HH.out.2.1;omega,_,hz3⟩)
      have hz4:=setRow_heap w3 b6 cs cs' _ _ hz3
      have H4:=Lib.hid (A3 hst4 hz4 ((HE.out.2.2.2.then k3).trans (Zi w3 b6 cs') (fun c hc e=>e)))
      clear hst3 hst4 hz4 hsz hsz3
      go_wp2_with (refine wpList_store_row rfl 168 _ _ rfl b6 cs' rfl rfl 168 cs hz3 hinf3 hss hone3 ?_)
      go_roundw
      case rel=>exact ⟨k+1,_,by congr 1,by have:=HE.out.1;omega,by rcases HE.out.2.1 with h | h <;> omega,H4.out.2.1,H4.out.1,H4.out.2.2⟩
      case measure=>have:=HE.out.1;simp [intOf];omega
    ·have hK:Ra n rs.length=k:=by unfold Ra;split <;> omega
     have hz4:=kr.heap HL.out.2.2.1 hz4n
     have kk:=HL.out.2.1.trans kr (fun c hc e=>by have:=HW.out.2.2.1;have e:c=b6:=e;omega)
     have HE:=Lib.hid (A4 hst kk hK hone)
     have hcs:k<rs.length/\0<=n/\n<=(k:Int)\/¬(k:Int)<(rs.length:Int):=by omega
     clear hst kk hK hone hA hk hkn
     rcases hcs with ⟨q1,q2,q3⟩ | q1
     ·have q1:(k:Int)<(rs.length:Int):=by omega
      obtain ⟨r,hx⟩:∃ r,rs[k]?=some r:=⟨_,List.getElem?_eq_getElem (by omega)⟩
      obtain ⟨g,u,hgo,cu,bu⟩:=HL.out.1.cell hx
      subst hgo
      obtain ⟨uo,uc,rfl⟩:=bu.form
      have hgb:¬g=b6:=fun e=>by
       subst e
       obtain ⟨us,_,_,hrr⟩:=HL.out.1
       obtain ⟨_,cur,hz'⟩:=Qa hrr g (by rfl)
       rw [HL.out.2.2.2.1] at hz'
       simp at hz'
      have cu:=kr.cell cu hgb
      clear kr bu hx
      go_upto_region 19 with fail
      go_wp2_with (first | (refine wpList_load_row rfl 168 _ rfl b6 rfl 168 cs (0,0) _ hz Tryz.underlying168 rfl hinf ?_) | (refine wpList_store_row rfl 168 _ _ rfl w.heap.size cs rfl rfl 168 _ hz4 hinf (by rw [hsz];rfl) HE.out.2.2.2 ?_))
      have hz9:=setRow_heap wr w.heap.size _ cs _ _ hz4
      refine bodyPost_ret (v:=.tuple #[.agg cs,.int .i64 0]) (Jl rfl _ _ w.heap.size 168 cs (0,0) _ _ rfl rfl hz9 Tryz.underlying168 rfl hinf) rfl ⟨cs,rfl,?_,HE.out.2.1.trans (Zi wr w.heap.size cs) (fun c hc e=>by have e:c=w.heap.size:=e;omega)⟩
      rw [HE.out.2.2.1]
      exact HH.out.2.2.2.2.2.2.2.2.2.1.keep _ _ _ _ (·=w.heap.size) HE.out.1 (Zi wr w.heap.size cs) (fun x e=>by have e:x=w.heap.size:=e;subst e;exact ⟨HH.out.2.1,_,hz4⟩)
     ·clear kr
      go_upto_region 19 with fail
      go_wp2_with (first | (refine wpList_load_row rfl 168 _ rfl b6 rfl 168 cs (0,0) _ hz Tryz.underlying168 rfl hinf ?_) | (refine wpList_store_row rfl 168 _ _ rfl w.heap.size cs rfl rfl 168 _ hz4 hinf (by rw [hsz];rfl) HE.out.2.2.2 ?_))
      have hz9:=setRow_heap wr w.heap.size _ cs _ _ hz4
      refine bodyPost_ret (v:=.tuple #[.agg cs,.int .i64 0]) (Jl rfl _ _ w.heap.size 168 cs (0,0) _ _ rfl rfl hz9 Tryz.underlying168 rfl hinf) rfl ⟨cs,rfl,?_,HE.out.2.1.trans (Zi wr w.heap.size cs) (fun c hc e=>by have e:c=w.heap.size:=e;omega)⟩
      rw [HE.out.2.2.1]
      exact HH.out.2.2.2.2.2.2.2.2.2.1.keep _ _ _ _ (·=w.heap.size) HE.out.1 (Zi wr w.heap.size cs) (fun x e=>by have e:x=w.heap.size:=e;subst e;exact ⟨HH.out.2.1,_,hz4⟩)
theorem r16count_spec [bn:Inhabited Ban] {base:Nat} {w:World} {q:Nat} {lv:Value} {x:Qn} {ss:List SegL} (h:Zs base w q lv x) (hb:base<=w.heap.size) (hT:ban.top<=w.heap.size)
  (hl:x.l.length<=1000) (hs:wsum x.l<=1099511627776) (hm:segs6 x.l=segMap ss) (ho:Hs ss) (hrec:(Qw ss).length<=400000) :
  Calls Tryz.prog 119 #[.pointer (some ⟨q,0,none⟩)] w fun e w'=>e=.returned (.int .i64 (Qw ss).length)/\Keep No w w':=by
 have hrd:=rRead_spec h hb hT hl hs hm ho
 have hall:=fun (w1:World) (v1:Value) (h7:R7 base w1 v1 ss) (hb1:base<=w1.heap.size)=>rAll_spec h7 hb1 ho.few hrec
 have HH:=Lib.hid hb
 clear h hb hT hl hs hm ho hrec
 go_enter Tryz.func119,Tryz.ntmps119
 go_wp2_with (first
  | (go_at_call 126;refine hal.mono ?_;rintro e w2 ⟨v2,rfl,h2,k2⟩;obtain ⟨o2,c2,rfl,_,_⟩:=h2.form)
  | (go_at_call 125;refine hrd.mono ?_;rintro e w1 ⟨v1,rfl,h71,_,k1⟩;have hal:=hall w1 v1 h71 (Nat.le_trans HH.out k1.size)))
 go_ret
 exact ⟨rfl,k1.then k2⟩
theorem Jg.ne [bn:Inhabited Ban] {base:Nat} {w:World} {p q:Nat} {lv:Value} {x:Qn} {width:Nat} {size safe:Int} (h:Jg base w p q lv x width size safe):¬q=p:=fun e=>by
 have h1:=h.blk
 rw [<- e,h.rdisk.blk] at h1
 simp at h1
theorem r16Sync_spec [bn:Inhabited Ban] {base:Nat} {w:World} {p q:Nat} {lv:Value} {x:Qn} {width:Nat} {size safe:Int} {ss:List SegL} (h:Jg base w p q lv x width size safe) (hb:base<=w.heap.size) (hT:ban.top<=w.heap.size)
  (hl:x.l.length<=1000) (hs:wsum x.l<=1099511627776) (hm:segs6 x.l=segMap ss) (ho:Hs ss) (hrec:(Qw ss).length<=400000) :
  Calls Tryz.prog 70 #[.pointer (some ⟨p,0,none⟩)] w fun e w'=>(∃ v,e=.returned v)/\Jg base w' p q lv x.sync width size (Qw ss).length/\Keep (fun b=>b=p\/b=q) w w':=by
 have cp:=Qq h.blk 0
 simp at cp
 obtain ⟨lo,lc,rfl,_,_⟩:=h.rdisk.calls.form
 have cq:=fun i=>Qq h.rdisk.blk i
 have c2:=cq 2
 have c3:=cq 3
 have f3:=Qg h.rdisk.blk 3
 simp at c2 c3
 have HH:=Lib.hid (A8 h hb hT hl hs hm ho hrec)
 clear h hb hT hl hs hm ho hrec cq
 go_enter Tryz.func70,Tryz.ntmps70
 go_upto_region 0 with fail
 have kd:Keep No w w.drew:=(Keep.refl _ _).drew
 refine Ql (fun w'=>Keep No w w') [0,1,2,3,4,5,6,7,8,9,10,11] [] [12,13,14] (by kernel_rfl) (by kernel_rfl) (fun _ _ _ _ _ h=>h) kd ?_
 iterate 12 (refine Qk (v:=?_) rfl rfl rfl ?_ ?_;rotate_left;focus (
  intro w' hS
  have f0:=hS.cell cp (fun e=>e)
  have f1:=hS.cell c2 (fun e=>e)
  go_simp
  try with_reducible rfl))
 refine Qj (Qh (Qu rfl (Qu rfl (Qu rfl (Qm ?_)))))
 have hbk:=kd.heap HH.out.1.rdisk.blk (fun e=>e)
 have c3:=kd.cell c3 (fun e=>e)
 have f3:=Qg hbk 3
 have hs1:=Qz (i:=3) (u:=.int .i64 (x.l.length:Nat)) hbk
 have k1:Keep (·=q) w.drew (w.drew.setCell ⟨q,3,none⟩ (.int .i64 (x.l.length:Nat))):=Qd _ _
 have hne:=HH.out.1.ne
 have hFq:Foot base w.drew (·=q):=fun b e=>by
  have e:b=q:=e
  subst e
  exact ⟨HH.out.1.rdisk.qb,Qt hbk,fun cs fr e=>by rw [hbk] at e;simp at e⟩
 have hx1:Zs base (w.drew.setCell ⟨q,3,none⟩ (.int .i64 (x.l.length:Nat))) q (.slice lo x.l.length lc) x.sync :=
  ⟨by simpa [Qn.sync] using hs1,((HH.out.1.rdisk.no kd).calls).keep hFq k1 (fun b hb e=>by
   have e:b=q:=e
   obtain ⟨_,cur,hz⟩:=HH.out.1.rdisk.calls.kind b hb
   rw [e,HH.out.1.rdisk.blk] at hz
   simp at hz),HH.out.1.rdisk.qb⟩
 have hR1:Jg base (w.drew.setCell ⟨q,3,none⟩ (.int .i64 (x.l.length:Nat))) p q (.slice lo x.l.length lc) x.sync width size safe:=⟨k1.heap (kd.heap HH.out.1.blk (fun e=>e)) (fun e=>hne e.symm),hx1,HH.out.1.pb⟩
 have hcnt:=r16count_spec hx1 (Nat.le_trans HH.out.2.1 (Nat.le_trans kd.size k1.size)) (Nat.le_trans HH.out.2.2.1 (Nat.le_trans kd.size k1.size)) HH.out.2.2.2.1 HH.out.2.2.2.2.1 HH.out.2.2.2.2.2.1 HH.out.2.2.2.2.2.2.1 HH.out.2.2.2.2.2.2.2
 have k01:Keep (·=q) w (w.drew.setCell ⟨q,3,none⟩ (.int .i64 (x.l.length:Nat))):=kd.no.trans k1 (fun _ _ e=>e)
 obtain ⟨W1,hW1⟩:∃ W1,w.drew.setCell ⟨q,3,none⟩ (.int .i64 (x.l.length:Nat))=W1:=⟨_,rfl⟩
 rw [hW1] at hR1 k01 hcnt
 have cp1:=Qq hR1.blk 0
 simp at cp1
 have HB:=Lib.hid (A3 hR1 k01 hne)
 clear hR1 k01 hx1 hFq hs1 k1 hbk kd hne cp c2
 go_upto_region 1 with fail
 try rw [hW1]
 clear hW1
 go_wp2_with fail
 refine hcnt.mono ?_
 rintro e w2 ⟨rfl,k2⟩
 have hR2:=HB.out.1.no k2
 have hb2:=hR2.blk
 have d3:=Qq hb2 3
 have fd3:=Qg hb2 3
 simp at d3
 have hs2:=Qz (i:=3) (u:=.int .i64 ((Qw ss).length:Nat)) hb2
 have k3:Keep (·=p) w2 (w2.setCell ⟨p,3,none⟩ (.int .i64 ((Qw ss).length:Nat))):=Qd _ _
 have hFp:Foot base w2 (·=p):=fun b e=>by
  have e:b=p:=e
  subst e
  exact ⟨HH.out.1.pb,Qt hb2,fun cs fr e=>by rw [hb2] at e;simp at e⟩
 have hD2:Zs base (w2.setCell ⟨p,3,none⟩ (.int .i64 ((Qw ss).length:Nat))) q (.slice lo x.l.length lc) x.sync :=
  ⟨k3.heap hR2.rdisk.blk HB.out.2.2,hR2.rdisk.calls.keep hFp k3 (fun b hb e=>by
   have e:b=p:=e
   obtain ⟨_,cur,hz⟩:=hR2.rdisk.calls.kind b hb
   rw [e,hb2] at hz
   simp at hz),hR2.rdisk.qb⟩
 have hR3:Jg base (w2.setCell ⟨p,3,none⟩ (.int .i64 ((Qw ss).length:Nat))) p q (.slice lo x.l.length lc) x.sync width size (Qw ss).length:=⟨by simpa using hs2,hD2,HH.out.1.pb⟩
 have kk:Keep (fun b=>b=p\/b=q) w (w2.setCell ⟨p,3,none⟩ (.int .i64 ((Qw ss).length:Nat))):=((HB.out.2.1.then k2).mono (fun _ _ e=>.inr e)).trans (k3.mono (fun _ _ e=>.inl e)) (fun _ _ e=>e)
 have HC:=Lib.hid (A2 hR3 kk)
 clear hR2 hb2 hs2 k3 hFp hD2 hR3 kk
 go_wp2_with fail
 go_end0
 exact ⟨⟨_,rfl⟩,HC.out.1,HC.out.2⟩
end Go.Proofs.YtfdmbomlkpkegaaGreat
namespace Go.Proofs.YtfdmbomlkpkegaaGreat
open Go Go.RowKit Go.Dr Go.Shelf
end Go.Proofs.YtfdmbomlkpkegaaGreat
