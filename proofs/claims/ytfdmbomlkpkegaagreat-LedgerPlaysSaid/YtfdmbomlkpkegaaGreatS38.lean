/- Lemmas for LedgerPlays. -/
import Derived.Test.YtfdmbomlkpkegaaGreatS37
import Derived.Test.YtfdmbomlkpkegaaGreatS3
import Derived.Test.YtfdmbomlkpkegaaGreatS1
import Derived.Test.YtfdmbomlkpkegaaGreatS32
import Derived.Test.YtfdmbomlkpkegaaGreatS24
import Derived.Test.YtfdmbomlkpkegaaGreatS30
set_option maxRecDepth 100000
set_option maxHeartbeats 8000000
set_option linter.all false
namespace Go.Proofs.YtfdmbomlkpkegaaGreat
open Go Go.RowKit Go.Dr Go.Shelf
theorem r4Right_spec {w:World} {s:Ys} {ao:Option Addr} {cap:Nat} (hl:s.body.length<=1099511627776):Calls Tryz.prog 120 #[.agg #[.int .i64 s.c,.slice ao s.body.length cap]] w fun e w'=>e=.returned (.bool s.right)/\Keep No w w':=by
 have kA:Keep No w (w.alloc (.cells #[.int .i64 s.c,.slice ao s.body.length cap] 173)):=(Keep.refl _ _).alloc _
 by_cases h1:0<=s.c
 ·by_cases h2:s.c<8
  ·by_cases h3:s.body.length<=4096
   ·have h3i:(s.body.length:Int)<=4096:=by omega
    have hs:s.right=true:=by simp [Ys.right,h1,h2,h3]
    rw [hs]
    clear hs
    go_enter Tryz.func120,Tryz.ntmps120
    go_wp2
    go_ret
    exact ⟨rfl,kA⟩
   ·have h3i:¬(s.body.length:Int)<=4096:=by omega
    have hs:s.right=false:=by simp [Ys.right];omega
    rw [hs]
    clear hs
    go_enter Tryz.func120,Tryz.ntmps120
    go_wp2
    go_ret
    exact ⟨rfl,kA⟩
  ·have hs:s.right=false:=by simp [Ys.right];omega
   rw [hs]
   clear hs
   go_enter Tryz.func120,Tryz.ntmps120
   go_wp2
   go_ret
   exact ⟨rfl,kA⟩
 ·have hs:s.right=false:=by simp [Ys.right];omega
  rw [hs]
  clear hs
  go_enter Tryz.func120,Tryz.ntmps120
  go_wp2
  go_ret
  exact ⟨rfl,kA⟩
theorem r2Bytes_spec [bn:Inhabited Ban] {base:Nat} {w:World} {v:Value} {b:List UInt8} (h:Qv base w v b) (hl:b.length<=1073741824) (hT:ban.top<=w.heap.size) :
  Calls Tryz.prog 204 #[v] w fun e w'=>∃ v',e=.returned v'/\OwnB w' w.heap.size v' (numB b.length++b)/\Keep No w w':=by
 obtain ⟨ao,cap,rfl⟩:=h.form
 have hbl:=Qp (n:=b.length) (by omega)
 obtain ⟨n,hn⟩:∃ n,n=b.length:=⟨_,rfl⟩
 rw [<- hn] at hbl ⊢
 have hnum:Calls Tryz.prog 98 #[.int .u64 n] w _:=Jo 9 n (by omega) (by omega) w
 have hc:IntKind.u64.wrap (n:Int)=(n:Int):=by rw [wraps_u64 _ (by omega) (by omega)]
 have HH:=Lib.hid (A5 h hl hT hn hbl)
 clear h hl hT hn hbl
 go_enter Tryz.func204,Tryz.ntmps204
 go_upto_region 1 with fail
 go_wp2_with fail
 refine hnum.mono ?_
 rintro e w1 ⟨v1,rfl,own1,k1⟩
 clear hnum
 obtain ⟨o1,c1,rfl⟩:=own1.form
 have hv:=HH.out.1.no k1
 rw [<- HH.out.2.2.2.1] at hv
 have hsl:=Ko (own1.bytes (base:=base) (fun _=>HH.out.2.2.1)) hv
 have hjn:=Xv hsl (by have:=HH.out.2.1;have:=HH.out.2.2.2.2;simp;omega)
 have kA:=(Keep.refl No w1).alloc (.cells #[.slice o1 (numB n).length c1,.slice ao n cap] 59)
 have HX:=Lib.hid (k1.then kA)
 clear hv hsl own1 k1 kA
 go_wp2_with fail
 refine hjn.mono ?_
 rintro e w2 ⟨v2,rfl,own2,k2⟩
 go_wp2_with fail
 go_ret
 refine ⟨_,rfl,?_,HX.out.then k2⟩
 have:=own2.mono HX.out.size
 simpa using this
theorem r4Put_spec [bn:Inhabited Ban] {base:Nat} {w:World} {v:Value} {s:Ys} (h:Qv base w v s.body) (hs:s.Right) (hT:ban.top<=w.heap.size) :
  Calls Tryz.prog 174 #[.agg #[.int .i64 s.c,v]] w fun e w'=>∃ v',e=.returned v'/\OwnB w' w.heap.size v' s.bytes/\Keep No w w':=by
 obtain ⟨ao,cap,rfl⟩:=h.form
 obtain ⟨c,hc,hc8,hby,hbl⟩:=span_head hs []
 rw [hc]
 have hw8:IntKind.u8.wrap (c:Int)=(c:Int):=by rw [IntKind.wrap_u8];omega
 obtain ⟨W,hW⟩:∃ W,W=w.alloc (.cells #[.int .i64 c,.slice ao s.body.length cap] 173):=⟨_,rfl⟩
 have kW:Keep No w W:=by rw [hW];exact (Keep.refl _ _).alloc _
 have hA:W.heap[w.heap.size]?=some (.cells #[.int .i64 c,.slice ao s.body.length cap] 173 (0,0)):=by rw [hW];exact Qy _ _
 have c0:=Qq hA 0
 have c1:=Qq hA 1
 simp at c0 c1
 have hTW:=Nat.le_trans hT kW.size
 have hbs:=fun (X:World) (k:Keep No W X)=>r2Bytes_spec ((h.no kW).no k) (by have:=hs.2.2;omega) (Nat.le_trans hTW k.size)
 have hfin:∀ (X:World) (v1:Value),ban.top<=X.heap.size->Qv base X v1 [UInt8.ofNat c]->∀ v2,Qv base X v2 (numB s.body.length++s.body)->Calls Tryz.prog 97 #[.slice (some ⟨X.heap.size,0,none⟩) 2 2] (X.alloc (.cells #[v1,v2] 59)) fun e w'=>∃ v',e=.returned v'/\OwnB w' X.heap.size v' s.bytes/\Keep No X w':=by
  intro X v1 hT' h1 v2 h2
  have hlen:=hs.2.2
  have hn:=Qp (n:=s.body.length) (by omega)
  refine (Xv (Ko h1 h2) (by simp;omega)).mono ?_
  rintro e w' ⟨v',rfl,o,k⟩
  refine ⟨v',rfl,?_,((Keep.refl No X).alloc _).then k⟩
  have o:=o.mono (B':=X.heap.size) ((Keep.refl No X).alloc _).size
  rw [List.append_nil,List.append_nil] at hby
  rw [hby]
  simpa using o
 have HH:=Lib.hid (A5 kW hbs hfin hTW hc8)
 clear hbs hfin hTW kW hs hby hbl hc hc8 hT h
 go_enter Tryz.func174,Tryz.ntmps174
 go_upto_region 1 with fail
 rw [<- hW]
 clear hW
 have kd:Keep No W W.drew:=(Keep.refl _ _).drew
 refine wp_drawF (fun w'=>Keep No W w') [0,1,2,4,5] [6] [7,8,9] 3 (by kernel_rfl) (by kernel_rfl) (fun _ _ _ _ _ h=>h) kd ?_
 iterate 5 (refine Qk (v:=?_) rfl rfl rfl ?_ ?_;rotate_left;focus (
  intro w' hS
  have d0:=hS.cell c0 (fun e=>e)
  have d1:=hS.cell c1 (fun e=>e)
  go_simp
  try with_reducible rfl))
 refine Qj ⟨?_,?_⟩
 ·refine Qx rfl rfl (fun K hK=>?_)
  go_simp
  have kA:=kd.alloc (.cells #[.int .u8 c] 5)
  refine hK _ _ kA ?_
  clear hK K
  refine Qx rfl rfl (fun K hK=>?_)
  go_simp
  refine (HH.out.2.1 _ kA).mono ?_
  rintro e w2 ⟨v2,rfl,own2,k2⟩
  have k12:=kA.then k2
  refine hK _ _ k12 ?_
  clear hK K
  have hT2:ban.top<=w2.heap.size:=Nat.le_trans HH.out.2.2.2.1 k12.size
  have hb0:=Vc W.drew c (by have:=HH.out.2.2.2.2;omega)
  rw [show W.drew.heap.size=W.heap.size from rfl] at hb0
  have hby:=(hb0.keep k2 (fun _ _ e=>e)).bytes (base:=base) (fun _=>HH.out.2.2.2.1)
  have hjn:=HH.out.2.2.1 w2 _ hT2 hby _ (own2.bytes (base:=base) (fun _=>Nat.le_trans HH.out.2.2.2.1 kA.size))
  obtain ⟨o2,c2,hv2e⟩:=own2.form
  obtain ⟨bl,hbl⟩:∃ bl,bl=(numB s.body.length++s.body).length:=⟨_,rfl⟩
  rw [<- hbl] at hv2e
  subst hv2e
  clear hbl
  clear own2 hby
  refine Qh (Qu rfl (Qu rfl (Qu rfl (Qm ?_))))
  go_wp2_with fail
  refine hjn.mono ?_
  rintro e w3 ⟨v3,rfl,own3,k3⟩
  go_wp2_with fail
  go_ret
  exact ⟨_,rfl,own3.mono (HH.out.1.then k12).size,(HH.out.1.then k12).then k3⟩
 ·refine Qx rfl rfl (fun K hK=>?_)
  go_simp
  refine (HH.out.2.1 _ kd).mono ?_
  rintro e w2 ⟨v2,rfl,own2,k2⟩
  have k12:=kd.then k2
  refine hK _ _ k12 ?_
  clear hK K
  refine Qh ?_
  refine Qx rfl rfl (fun K hK=>?_)
  go_simp
  have kA:=k12.alloc (.cells #[.int .u8 c] 5)
  refine hK _ _ kA ?_
  clear hK K
  have hT2:ban.top<=w2.heap.size:=Nat.le_trans HH.out.2.2.2.1 k12.size
  have hTA:ban.top<=(w2.alloc (.cells #[.int .u8 c] 5)).heap.size:=Nat.le_trans HH.out.2.2.2.1 kA.size
  have hby:=(Vc w2 c (by have:=HH.out.2.2.2.2;omega)).bytes (base:=base) (fun _=>hT2)
  have hv2:=(own2.bytes (base:=base) (fun _=>HH.out.2.2.2.1)).no ((Keep.refl No w2).alloc (.cells #[.int .u8 c] 5))
  have hjn:=HH.out.2.2.1 _ _ hTA hby _ hv2
  rw [World.size_alloc] at hjn
  obtain ⟨o2,c2,hv2e⟩:=own2.form
  obtain ⟨bl,hbl⟩:∃ bl,bl=(numB s.body.length++s.body).length:=⟨_,rfl⟩
  rw [<- hbl] at hv2e
  subst hv2e
  clear hbl
  clear own2 hby hv2
  refine Qh (Qu rfl (Qu rfl (Qu rfl (Qm ?_))))
  go_wp2_with fail
  refine hjn.mono ?_
  rintro e w3 ⟨v3,rfl,own3,k3⟩
  go_wp2_with fail
  go_ret
  exact ⟨_,rfl,own3.mono (by have:=(HH.out.1.then kA).size;rw [World.size_alloc] at this;exact this),(HH.out.1.then kA).then k3⟩
theorem r4PutItem_spec [bn:Inhabited Ban] {base:Nat} {w:World} {v:Value} {x:Qc} (h:Qv base w v x.s.body) (hs:x.Right) (hT:ban.top<=w.heap.size) :
  Calls Tryz.prog 124 #[.agg #[.int .u64 x.n,.int .i64 x.s.c,v]] w fun e w'=>∃ v',e=.returned v'/\OwnB w' w.heap.size v' x.bytes/\Keep No w w':=by
 obtain ⟨ao,cap,rfl⟩:=h.form
 obtain ⟨W,hW⟩:∃ W,W=w.alloc (.cells #[.int .u64 x.n,.int .i64 x.s.c,.slice ao x.s.body.length cap] 206):=⟨_,rfl⟩
 have kW:Keep No w W:=by rw [hW];exact (Keep.refl _ _).alloc _
 have hA:W.heap[w.heap.size]?=some (.cells #[.int .u64 x.n,.int .i64 x.s.c,.slice ao x.s.body.length cap] 206 (0,0)):=by rw [hW];exact Qy _ _
 have c0:=Qq hA 0
 have c1:=Qq hA 1
 have c2:=Qq hA 2
 simp at c0 c1 c2
 have hTW:=Nat.le_trans hT kW.size
 have hnum:Calls Tryz.prog 98 #[.int .u64 x.n] W.drew _:=Jo 9 x.n (by have:=hs.1;omega) (by have:=hs.1;omega) W.drew
 have hpt:=fun (X:World) (k:Keep No W X)=>r4Put_spec ((h.no kW).no k) hs.2 (Nat.le_trans hTW k.size)
 have hnl:=Qp (n:=x.n) (by have:=hs.1;omega)
 have hbl:x.s.bytes.length<=5000:=by
  obtain ⟨c,_,_,_,e⟩:=span_head hs.2 []
  have:=hs.2.2.2
  have:=Qp (n:=x.s.body.length) (by omega)
  omega
 have hfin:∀ (X:World) (v1:Value),Qv base X v1 (numB x.n)->∀ v2,Qv base X v2 x.s.bytes->Calls Tryz.prog 97 #[.slice (some ⟨X.heap.size,0,none⟩) 2 2] (X.alloc (.cells #[v1,v2] 59)) fun e w'=>∃ v',e=.returned v'/\OwnB w' X.heap.size v' x.bytes/\Keep No X w':=by
  intro X v1 h1 v2 h2
  refine (Xv (Ko h1 h2) (by simp;omega)).mono ?_
  rintro e w' ⟨v',rfl,o,k⟩
  refine ⟨v',rfl,?_,((Keep.refl No X).alloc _).then k⟩
  have o:=o.mono (B':=X.heap.size) ((Keep.refl No X).alloc _).size
  simpa [Qc.bytes] using o
 have HH:=Lib.hid (A4 kW hpt hfin hTW)
 clear hpt hfin hTW kW hs hT h hnl hbl
 go_enter Tryz.func124,Tryz.ntmps124
 go_upto_region 1 with fail
 rw [<- hW]
 clear hW
 have kd:Keep No W W.drew:=(Keep.refl _ _).drew
 refine Ql (fun w'=>Keep No W w') [0,1,3,4] [2,5] [6,7,8] (by kernel_rfl) (by kernel_rfl) (fun _ _ _ _ _ h=>h) kd ?_
 iterate 4 (refine Qk (v:=?_) rfl rfl rfl ?_ ?_;rotate_left;focus (
  intro w' hS
  have d0:=hS.cell c0 (fun e=>e)
  have d1:=hS.cell c1 (fun e=>e)
  have d2:=hS.cell c2 (fun e=>e)
  go_simp
  try with_reducible rfl))
 refine Qj ?_
 refine Qx rfl rfl (fun K hK=>?_)
 go_simp
 refine hnum.mono ?_
 rintro e w1 ⟨v1,rfl,own1,k1⟩
 have k11:=kd.then k1
 refine hK _ _ k11 ?_
 clear hK K hnum
 refine Qx rfl rfl (fun K hK=>?_)
 go_simp
 refine (HH.out.2.1 _ k11).mono ?_
 rintro e w2 ⟨v2,rfl,own2,k2⟩
 have k12:=k11.then k2
 refine hK _ _ k12 ?_
 clear hK K
 have hjn:=HH.out.2.2.1 w2 _ ((own1.keep k2 (fun _ _ e=>e)).bytes (base:=base) (fun _=>HH.out.2.2.2)) _ (own2.bytes (base:=base) (fun _=>Nat.le_trans HH.out.2.2.2 k11.size))
 obtain ⟨o1,d1,hv1e⟩:=own1.form
 obtain ⟨bl1,hbl1⟩:∃ bl1,bl1=(numB x.n).length:=⟨_,rfl⟩
 rw [<- hbl1] at hv1e
 subst hv1e
 obtain ⟨o2,d2,hv2e⟩:=own2.form
 obtain ⟨bl2,hbl2⟩:∃ bl2,bl2=x.s.bytes.length:=⟨_,rfl⟩
 rw [<- hbl2] at hv2e
 subst hv2e
 clear hbl1 hbl2 own1 own2
 refine Qh (Qu rfl (Qu rfl (Qu rfl (Qm ?_))))
 go_wp2_with fail
 refine hjn.mono ?_
 rintro e w3 ⟨v3,rfl,own3,k3⟩
 go_wp2_with fail
 go_ret
 exact ⟨_,rfl,own3.mono (HH.out.1.then k12).size,(HH.out.1.then k12).then k3⟩
structure RR [bn:Inhabited Ban] (base:Nat) (w:World) (p q:Nat) (lv:Value) (x:Qn) (width:Nat) (size safe:Int) (ss:List SegL) (ts:List LRec) (L:LedS) (j cnt:Nat) (d:Qr):Prop where
 mem:Jg base w p q lv x width size safe
 lg7:Log7 j cnt (Zk ts) ss d x
 jle:j<=450
 tls:Jc width ts L
 okL:L.Ok width
 few:∀ r∈ts,r.bytes.length<=1000
section
variable [bn:Inhabited Ban] {base:Nat} {w w':World} {p q width j cnt:Nat} {lv:Value} {x:Qn} {size safe:Int} {ss:List SegL} {ts:List LRec} {L:LedS} {d:Qr}
theorem RR.no (h:RR base w p q lv x width size safe ss ts L j cnt d) (k:Keep No w w'):RR base w' p q lv x width size safe ss ts L j cnt d:=⟨h.mem.no k,h.lg7,h.jle,h.tls,h.okL,h.few⟩
theorem RR.many (h:RR base w p q lv x width size safe ss ts L j cnt d):ts.length<=900:=by
 have h1:=h.lg7.good.next
 have h2:=h.lg7.next
 have h3:=h.jle
 have e:(Zk ts).length=ts.length:=by simp [Zk]
 omega
theorem RR.told (h:RR base w p q lv x width size safe ss ts L j cnt d) (hb:base<=w.heap.size) (hT:ban.top<=w.heap.size) :
  Calls Tryz.prog 74 #[.pointer (some ⟨p,0,none⟩),.int .i64 (-1)] w fun e w'=>∃ cs,e=.returned (.tuple #[.agg cs,.int .i64 0])/\StOf base w' cs L/\Keep No w w':=by
 have hm:=h.many
 have hg:=h.lg7.good
 have hlen:=hg.len
 have hsum:=hg.sum
 have hj:=h.jle
 refine (r16Told_at h.mem hb hT (by omega) (by omega) hg.map (hg.segsOk (by omega)) h.lg7.recs h.okL.wide (by omega) h.few h.tls.can (-1) (by decide)).mono ?_
 rintro e w' ⟨cs,e1,e2,k⟩
 refine ⟨cs,e1,?_,k⟩
 have ht:Ra (-1) ts.length=ts.length:=rfl
 rw [ht,List.take_length] at e2
 unfold StOf at e2 ⊢
 rw [h.tls.inc,h.tls.now,h.tls.recs]
 exact e2
theorem RR.app (h:RR base w p q lv x width size safe ss ts L j cnt d) (hb:base<=w.heap.size) (hT:ban.top<=w.heap.size) {pv:Value} {r:Qs} (hp:Qv base w pv r) (hr:r.length<=1048576) :
  Calls Tryz.prog 96 #[.pointer (some ⟨q,0,none⟩),.int .i64 size,pv] w (R7App base w q lv (max (Zz 0 ss) 1) (x.append (appS (logD size ss)).n (appB (logD size ss) r))):=by
 have hg:=h.lg7.good
 have hlen:=hg.len
 have hsum:=hg.sum
 have hj:=h.jle
 have hnx:=hg.next
 exact rAppend7_spec h.mem.rdisk hb hT (by omega) (by omega) hg.map (hg.segsOk (by omega)) (fun s hs=>by have:=hg.pos s hs;omega) size hp hr (by omega)
def Ho [bn:Inhabited Ban] (base:Nat) (w:World) (p q:Nat) (lv:Value) (x':Qn) (width:Nat) (size safe:Int) (w':World):Prop :=
 ∃ lv',Jg base w' p q lv' x' width size safe/\Keep (·=q) w w'/\∀ b,lv'.ownBlock=some b->lv.ownBlock=some b\/w.heap.size<=b
theorem RR.wrote {w2 w3:World} {lv':Value} {x':Qn} (h:RR base w p q lv x width size safe ss ts L j cnt d) (k:Keep No w w2) (hx:Zs base w3 q lv' x') (k3:Keep (·=q) w2 w3) (ho:∀ b,lv'.ownBlock=some b->lv.ownBlock=some b\/w2.heap.size<=b):Ho base w p q lv x' width size safe w3 :=
 ⟨lv',⟨k3.heap (k.heap h.mem.blk (fun e=>e)) (fun e=>h.mem.ne e.symm),hx,h.mem.pb⟩,k.no.trans k3 (fun _ _ e=>e),fun b hb=>(ho b hb).imp id (fun e=>Nat.le_trans k.size e)⟩
end
theorem r16Raise_bad {w:World} (v:Value) (a:Int) (e:Nat) (h:a<0\/15<a\/2305843009213693952<=e) :
  Calls Tryz.prog 69 #[v,.int .i64 a,.int .u64 e] w fun r w'=>r=.returned (.int .i64 1)/\w'=w:=by
 by_cases h1:a<0
 ·go_enter Tryz.func69,Tryz.ntmps69
  go_wp2
  go_ret
  exact ⟨rfl,rfl⟩
 ·by_cases h2:15<a
  ·go_enter Tryz.func69,Tryz.ntmps69
   go_wp2
   go_ret
   exact ⟨rfl,rfl⟩
  ·have h3:((2305843009213693952:Int)<=(e:Int))=True:=eq_true (by omega)
   go_enter Tryz.func69,Tryz.ntmps69
   go_wp2
   go_ret
   exact ⟨rfl,rfl⟩
theorem r16Raise_spec [bn:Inhabited Ban] {base:Nat} {w:World} {p q width j cnt:Nat} {lv:Value} {x x':Qn} {size safe c:Int} {ss:List SegL} {ts:List LRec} {L:LedS} {d:Qr} (h:RR base w p q lv x width size safe ss ts L j cnt d) (a e:Nat) (ha:a<16) (he:e<2305843009213693952)
  (hb:base<=w.heap.size) (hT:ban.top<=w.heap.size) (hap:x.append (appS (logD size ss)).n (appB (logD size ss) (LRec.floor a e).bytes)=(x',c)) :
  Calls Tryz.prog 69 #[.pointer (some ⟨p,0,none⟩),.int .i64 a,.int .u64 e] w fun r w'=>(e<=L.floor a->r=.returned (.int .i64 9)/\Keep No w w')/\(¬e<=L.floor a->r=.returned (.int .i64 c)/\Ho base w p q lv x' width size safe w'):=by
 obtain ⟨g,hg,hgo,hgw,hgf⟩:=h.okL.at ha
 have hnow:L.now[a]?=some (g.floor,g.now):=by unfold LedS.now;rw [List.getElem?_map,hg];rfl
 have htold:=h.told hb hT
 have htold:Calls Tryz.prog 74 #[.pointer (some ⟨p,0,none⟩),.int .i64 (-1)] w fun e w'=>∃ cs,e=.returned (.tuple #[.agg cs,.int .i64 0])/\(cs.size=66/\cs.all (·.oneCell')=true/\(Tryz.prog.info? 168).map (·.size)=some cs.size/\cs[1+a]?=some (.int .u64 g.floor))/\Keep No w w':=by
  refine htold.mono ?_
  rintro e w' ⟨cs,rfl,hs,k⟩
  exact ⟨_,rfl,⟨hs.size,hs.all,hs.info,(hs.ags a _ hnow).1⟩,k⟩
 have hei:((2305843009213693952:Int)<=(e:Int))=False:=eq_false (by omega)
 have hai:(a:Int)<16:=by omega
 have haw:IntKind.u64.wrap (a:Int)=(a:Int):=by rw [IntKind.wrap_u64];omega
 have hlen:=Gz a e ha he
 rw [hgf]
 have cp:=fun i=>Qq h.mem.blk i
 have cp0:=cp 0
 have cp2:=cp 2
 simp at cp0 cp2
 have HH:=Lib.hid (A7 h hb hT hap hlen ha he)
 clear h hb hT hap hlen ha he hg hgo hgw hgf hnow cp
 obtain ⟨fl,hfl⟩:∃ fl,fl=g.floor:=⟨_,rfl⟩
 rw [<- hfl] at htold ⊢
 clear hfl
 by_cases hle:e<=fl
 ·have hlei:(e:Int)<=(fl:Int):=by omega
  have hle2:(e<=fl)=True:=eq_true hle
  clear hle
  go_enter Tryz.func69,Tryz.ntmps69
  go_upto_region 4 with (first
   | (go_at_call 74;refine htold.mono ?_;rintro e w2 ⟨cs,rfl,⟨hsz,hone,hinf,hc0⟩,k2⟩)
   | (refine wpList_store_row rfl 168 _ _ rfl w2.heap.size cs rfl rfl 168 Tryz.zeroCells168 (Qy _ _) hinf (by rw [hsz];rfl) hone ?_))
  have hz9:=setRow_heap _ w2.heap.size _ cs _ _ (Qy w2 (.cells Tryz.zeroCells168 168))
  have k3:Keep No w2 ((w2.alloc (.cells Tryz.zeroCells168 168)).setRow w2.heap.size cs):=((Keep.refl No w2).alloc _).trans (Zi _ w2.heap.size cs) (fun c hc e=>by have e:c=w2.heap.size:=e;omega)
  generalize (w2.alloc (.cells Tryz.zeroCells168 168)).setRow w2.heap.size cs=W3 at *
  have d0:=Qq hz9 (1+a)
  rw [hc0] at d0
  have k13:=k2.then k3
  clear hz9 hc0 hinf hone hsz htold k2 k3
  go_wp2_with fail
  go_ret
  exact ⟨fun _=>⟨rfl,k13⟩,fun h=>absurd hle2 (by simp [h])⟩
 ·have hlei:¬(e:Int)<=(fl:Int):=by omega
  have hle2:(e<=fl)=False:=eq_false hle
  clear hle
  go_enter Tryz.func69,Tryz.ntmps69
  go_upto_region 4 with (first
   | (go_at_call 74;refine htold.mono ?_;rintro e w2 ⟨cs,rfl,⟨hsz,hone,hinf,hc0⟩,k2⟩)
   | (refine wpList_store_row rfl 168 _ _ rfl w2.heap.size cs rfl rfl 168 Tryz.zeroCells168 (Qy _ _) hinf (by rw [hsz];rfl) hone ?_))
  have hz9:=setRow_heap _ w2.heap.size _ cs _ _ (Qy w2 (.cells Tryz.zeroCells168 168))
  have k3:Keep No w2 ((w2.alloc (.cells Tryz.zeroCells168 168)).setRow w2.heap.size cs):=((Keep.refl No w2).alloc _).trans (Zi _ w2.heap.size cs) (fun c hc e=>by have e:c=w2.heap.size:=e;omega)
  generalize (w2.alloc (.cells Tryz.zeroCells168 168)).setRow w2.heap.size cs=W3 at *
  have d0:=Qq hz9 (1+a)
  rw [hc0] at d0
  have k13:=k2.then k3
  clear hz9 hc0 hinf hone hsz htold k2 k3
  have hT3:=Nat.le_trans HH.out.2.2.1 k13.size
  have hna:=fun (X:World)=>Jo 9 a (by have:=HH.out.2.2.2.2.2.1;omega) (by have:=HH.out.2.2.2.2.2.1;omega) X
  have hne:=fun (X:World)=>Jo 9 e (by have:=HH.out.2.2.2.2.2.2;omega) (by have:=HH.out.2.2.2.2.2.2;omega) X
  have cp0:=k13.cell cp0 (fun e=>e)
  have cp2:=k13.cell cp2 (fun e=>e)
  have HB:=Lib.hid (A4 k13 hT3 hna hne)
  clear k13 hT3 hna hne
  go_upto_region 6 with fail
  have kd:Keep No W3 W3.drew:=(Keep.refl _ _).drew
  have hpq:¬p=q:=fun e=>HH.out.1.mem.ne e.symm
  obtain ⟨e0,he0⟩:∃ e0,e0=e:=⟨_,rfl⟩
  have hfin:∀ (X:World) (v0 v1 v2:Value),Qv base X v0 [UInt8.ofNat 2]->Qv base X v1 (numB a)->Qv base X v2 (numB e0)->Calls Tryz.prog 97 #[.slice (some ⟨X.heap.size,0,none⟩) 3 3] (X.alloc (.cells #[v0,v1,v2] 59)) fun e w'=>∃ v',e=.returned v'/\OwnB w' X.heap.size v' (LRec.floor a e0).bytes/\Keep No X w':=by
   intro X v0 v1 v2 h0 h1 h2
   rw [he0] at h2 ⊢
   have hlen:=HH.out.2.2.2.2.1
   have he3:[[UInt8.ofNat 2],numB a,numB e].flatten=(LRec.floor a e).bytes:=by simp [LRec.bytes]
   refine (Xv (slices3 h0 h1 h2) (by rw [he3];omega)).mono ?_
   rintro e w' ⟨v',rfl,o,k⟩
   rw [he3] at o
   exact ⟨v',rfl,o.mono (B':=X.heap.size) ((Keep.refl No X).alloc _).size,((Keep.refl No X).alloc _).then k⟩
  have happ:∀ (X:World) (v:Value),Keep No W3 X->Qv base X v (LRec.floor a e0).bytes->Calls Tryz.prog 96 #[.pointer (some ⟨q,0,none⟩),.int .i64 size,v] X fun e w'=>∃ (nx:Int) (lv':Value),e=.returned (.tuple #[.int .u64 nx,.int .i64 c])/\Zs base w' q lv' x'/\Keep (·=q) X w'/\∀ b,lv'.ownBlock=some b->lv.ownBlock=some b\/X.heap.size<=b:=by
   intro X v kX hv
   rw [he0] at hv
   have hR:=HH.out.1.no (HB.out.1.then kX)
   have:=hR.app (Nat.le_trans HH.out.2.1 (HB.out.1.then kX).size) (Nat.le_trans HB.out.2.1 kX.size) hv (by have:=HH.out.2.2.2.2.1;omega)
   rw [HH.out.2.2.2.1] at this
   exact this.mono (fun e w' ⟨lv',h1,h2,h3,h4⟩=>⟨_,lv',h1,h2,h3,h4⟩)
  rw [<- he0] at hei hlei ⊢
  have HF:=Lib.hid (A2 hfin happ)
  rw [<- he0] at HB
  clear hfin happ he0 hei hlei d0
  go_cut [9,10] (fun v9 v10 wx=>v10=.int .i64 c/\Ho base w p q lv x' width size safe wx)
  case first =>
   have kd2:Keep (·=q) W3 W3.drew:=kd.no
   refine wp_drawFS (fun w'=>Keep (·=q) W3 w') [(some 8,[0,1,2,3,4,5,6,7,9,10,12],[11,13]),(none,[],[14,15,16,17]),(none,[18,19],[20,21])] (by kernel_rfl) (by kernel_rfl) (fun _ _ _ _ _ h=>h) kd2 (stagesFN_some ?_)
   iterate 11 (refine Qk (v:=?_) rfl rfl rfl ?_ ?_;rotate_left;focus (
    intro w' hS
    have d1:=hS.cell cp0 hpq
    have d2:=hS.cell cp2 hpq
    go_simp
    try with_reducible rfl))
   refine Qj ⟨?_,?_⟩
   ·skip
    refine Qx rfl rfl (fun K hK=>?_)
    go_simp
    have kA:=kd.alloc (.cells #[.int .u8 2] 5)
    refine hK _ _ kA.no ?_
    clear hK K
    refine Qx rfl rfl (fun K hK=>?_)
    go_simp
    refine (HB.out.2.2.1 (W3.drew.alloc (.cells #[.int .u8 2] 5))).mono ?_
    rintro e w4 ⟨v4,rfl,own4,k4⟩
    have k34:=kA.then k4
    refine hK _ _ k34.no ?_
    clear hK K
    refine Qx rfl rfl (fun K hK=>?_)
    go_simp
    refine (HB.out.2.2.2 w4).mono ?_
    rintro e w5 ⟨v5,rfl,own5,k5⟩
    have k35:=k34.then k5
    refine hK _ _ k35.no ?_
    clear hK K
    have hb0:=Vc W3.drew 2 (by decide)
    rw [show W3.drew.heap.size=W3.heap.size from rfl] at hb0
    have hby:=((hb0.keep k4 (fun _ _ e=>e)).keep k5 (fun _ _ e=>e)).bytes (base:=base) (fun _=>HB.out.2.1)
    have hv1:=(own4.keep k5 (fun _ _ e=>e)).bytes (base:=base) (fun _=>Nat.le_trans HB.out.2.1 kA.size)
    have hv2:=own5.bytes (base:=base) (fun _=>Nat.le_trans HB.out.2.1 k34.size)
    refine Qh ?_
    obtain ⟨o4,c4,e4⟩:=own4.form
    obtain ⟨l4,hl4⟩:∃ l4,l4=(numB a).length:=⟨_,rfl⟩
    rw [<- hl4] at e4
    subst e4
    obtain ⟨o5,c5,e5⟩:=own5.form
    obtain ⟨l5,hl5⟩:∃ l5,l5=(numB e0).length:=⟨_,rfl⟩
    rw [<- hl5] at e5
    subst e5
    clear hl4 hl5 own4 own5
    have hjn:=HF.out.1 w5 _ _ _ hby hv1 hv2
    refine Jz (Qj ?_)
    refine Qx rfl rfl (fun K hK=>?_)
    go_simp
    have kS:=k35.alloc (.cells #[.slice (some ⟨W3.heap.size,0,none⟩) 1 1,.slice o4 l4 c4,.slice o5 l5 c5] 59)
    refine hK _ _ kS.no ?_
    clear hK K
    refine Qx rfl rfl (fun K hK=>?_)
    go_simp
    refine hjn.mono ?_
    rintro e w6 ⟨v6,rfl,own6,k6⟩
    have k36:=k35.then k6
    refine hK _ _ k36.no ?_
    clear hK K
    have happ:=HF.out.2 w6 _ k36 (own6.bytes (base:=base) (fun _=>Nat.le_trans HB.out.2.1 k35.size))
    obtain ⟨o6,c6,e6⟩:=own6.form
    obtain ⟨l6,hl6⟩:∃ l6,l6=(LRec.floor a e0).bytes.length:=⟨_,rfl⟩
    rw [<- hl6] at e6
    subst e6
    clear hl6 own6
    refine Qx rfl rfl (fun K hK=>?_)
    go_simp
    refine happ.mono ?_
    rintro e w7 ⟨nx,lv7,rfl,hx7,k7,o7⟩
    have k37:Keep (·=q) W3 w7:=k36.no.trans k7 (fun _ _ e=>e)
    refine hK _ _ k37 ?_
    clear hK K
    refine Qx rfl rfl (fun K hK=>?_)
    go_simp
    refine hK _ _ k37 ?_
    clear hK K
    refine Qh (Jz ?_)
    iterate 2 (refine Qk (v:=?_) rfl rfl rfl ?_ ?_;rotate_left;focus (
     intro w' hS
     go_simp
     try with_reducible rfl))
    refine Qj ?_
    refine Qx rfl rfl (fun K hK=>?_)
    go_simp
    refine hK _ _ k37 ?_
    clear hK K
    refine Qx rfl rfl (fun K hK=>?_)
    go_simp
    refine hK _ _ k37 ?_
    clear hK K
    refine Qh (stagesFN_nil ?_)
    go_wp2_with fail
    go_meet
    exact ⟨rfl,HH.out.1.wrote (HB.out.1.then k36) hx7 k7 o7⟩
   ·skip
    refine Qx rfl rfl (fun K hK=>?_)
    go_simp
    refine (HB.out.2.2.1 W3.drew).mono ?_
    rintro e w4 ⟨v4,rfl,own4,k4⟩
    have k34:=kd.then k4
    refine hK _ _ k34.no ?_
    clear hK K
    refine Qh ⟨?_,?_⟩
    ·skip
     refine Qx rfl rfl (fun K hK=>?_)
     go_simp
     have kA:=k34.alloc (.cells #[.int .u8 2] 5)
     refine hK _ _ kA.no ?_
     clear hK K
     refine Qx rfl rfl (fun K hK=>?_)
     go_simp
     refine (HB.out.2.2.2 (w4.alloc (.cells #[.int .u8 2] 5))).mono ?_
     rintro e w5 ⟨v5,rfl,own5,k5⟩
     have k35:=kA.then k5
     refine hK _ _ k35.no ?_
     clear hK K
     have hby:=((Vc w4 2 (by decide)).keep k5 (fun _ _ e=>e)).bytes (base:=base) (fun _=>Nat.le_trans HB.out.2.1 k34.size)
     have hv1:=((own4.keep ((Keep.refl No w4).alloc (.cells #[.int .u8 2] 5)) (fun _ _ e=>e)).keep k5 (fun _ _ e=>e)).bytes (base:=base) (fun _=>HB.out.2.1)
     have hv2:=own5.bytes (base:=base) (fun _=>Nat.le_trans HB.out.2.1 kA.size)
     refine Qh ?_
     obtain ⟨o4,c4,e4⟩:=own4.form
     obtain ⟨l4,hl4⟩:∃ l4,l4=(numB a).length:=⟨_,rfl⟩
     rw [<- hl4] at e4
     subst e4
     obtain ⟨o5,c5,e5⟩:=own5.form
     obtain ⟨l5,hl5⟩:∃ l5,l5=(numB e0).length:=⟨_,rfl⟩
     rw [<- hl5] at e5
     subst e5
     clear hl4 hl5 own4 own5
     have hjn:=HF.out.1 w5 _ _ _ hby hv1 hv2
     refine Jz (Qj ?_)
     refine Qx rfl rfl (fun K hK=>?_)
     go_simp
     have kS:=k35.alloc (.cells #[.slice (some ⟨w4.heap.size,0,none⟩) 1 1,.slice o4 l4 c4,.slice o5 l5 c5] 59)
     refine hK _ _ kS.no ?_
     clear hK K
     refine Qx rfl rfl (fun K hK=>?_)
     go_simp
     refine hjn.mono ?_
     rintro e w6 ⟨v6,rfl,own6,k6⟩
     have k36:=k35.then k6
     refine hK _ _ k36.no ?_
     clear hK K
     have happ:=HF.out.2 w6 _ k36 (own6.bytes (base:=base) (fun _=>Nat.le_trans HB.out.2.1 k35.size))
     obtain ⟨o6,c6,e6⟩:=own6.form
     obtain ⟨l6,hl6⟩:∃ l6,l6=(LRec.floor a e0).bytes.length:=⟨_,rfl⟩
     rw [<- hl6] at e6
     subst e6
     clear hl6 own6
     refine Qx rfl rfl (fun K hK=>?_)
     go_simp
     refine happ.mono ?_
     rintro e w7 ⟨nx,lv7,rfl,hx7,k7,o7⟩
     have k37:Keep (·=q) W3 w7:=k36.no.trans k7 (fun _ _ e=>e)
     refine hK _ _ k37 ?_
     clear hK K
     refine Qx rfl rfl (fun K hK=>?_)
     go_simp
     refine hK _ _ k37 ?_
     clear hK K
     refine Qh (Jz ?_)
     iterate 2 (refine Qk (v:=?_) rfl rfl rfl ?_ ?_;rotate_left;focus (
      intro w' hS
      go_simp
      try with_reducible rfl))
     refine Qj ?_
     refine Qx rfl rfl (fun K hK=>?_)
     go_simp
     refine hK _ _ k37 ?_
     clear hK K
     refine Qx rfl rfl (fun K hK=>?_)
     go_simp
     refine hK _ _ k37 ?_
     clear hK K
     refine Qh (stagesFN_nil ?_)
     go_wp2_with fail
     go_meet
     exact ⟨rfl,HH.out.1.wrote (HB.out.1.then k36) hx7 k7 o7⟩
    ·skip
     refine Qx rfl rfl (fun K hK=>?_)
     go_simp
     refine (HB.out.2.2.2 w4).mono ?_
     rintro e w5 ⟨v5,rfl,own5,k5⟩
     have k35:=k34.then k5
     refine hK _ _ k35.no ?_
     clear hK K
     refine Qh ?_
     refine Qx rfl rfl (fun K hK=>?_)
     go_simp
     have kA:=k35.alloc (.cells #[.int .u8 2] 5)
     refine hK _ _ kA.no ?_
     clear hK K
     have hby:=(Vc w5 2 (by decide)).bytes (base:=base) (fun _=>Nat.le_trans HB.out.2.1 k35.size)
     have hv1:=((own4.keep k5 (fun _ _ e=>e)).keep ((Keep.refl No w5).alloc (.cells #[.int .u8 2] 5)) (fun _ _ e=>e)).bytes (base:=base) (fun _=>HB.out.2.1)
     have hv2:=(own5.keep ((Keep.refl No w5).alloc (.cells #[.int .u8 2] 5)) (fun _ _ e=>e)).bytes (base:=base) (fun _=>Nat.le_trans HB.out.2.1 k34.size)
     refine Qh ?_
     obtain ⟨o4,c4,e4⟩:=own4.form
     obtain ⟨l4,hl4⟩:∃ l4,l4=(numB a).length:=⟨_,rfl⟩
     rw [<- hl4] at e4
     subst e4
     obtain ⟨o5,c5,e5⟩:=own5.form
     obtain ⟨l5,hl5⟩:∃ l5,l5=(numB e0).length:=⟨_,rfl⟩
     rw [<- hl5] at e5
     subst e5
     clear hl4 hl5 own4 own5
     have hjn:=HF.out.1 (w5.alloc (.cells #[.int .u8 2] 5)) _ _ _ hby hv1 hv2
     rw [World.size_alloc] at hjn
     refine Jz (Qj ?_)
     refine Qx rfl rfl (fun K hK=>?_)
     go_simp
     have kS:=kA.alloc (.cells #[.slice (some ⟨w5.heap.size,0,none⟩) 1 1,.slice o4 l4 c4,.slice o5 l5 c5] 59)
     refine hK _ _ kS.no ?_
     clear hK K
     refine Qx rfl rfl (fun K hK=>?_)
     go_simp
     refine hjn.mono ?_
     rintro e w6 ⟨v6,rfl,own6,k6⟩
     have k36:=kA.then k6
     refine hK _ _ k36.no ?_
     clear hK K
     have happ:=HF.out.2 w6 _ k36 (own6.bytes (base:=base) (fun _=>(by have:=Nat.le_trans HB.out.2.1 kA.size;rw [World.size_alloc] at this;exact this)))
     obtain ⟨o6,c6,e6⟩:=own6.form
     obtain ⟨l6,hl6⟩:∃ l6,l6=(LRec.floor a e0).bytes.length:=⟨_,rfl⟩
     rw [<- hl6] at e6
     subst e6
     clear hl6 own6
     refine Qx rfl rfl (fun K hK=>?_)
     go_simp
     refine happ.mono ?_
     rintro e w7 ⟨nx,lv7,rfl,hx7,k7,o7⟩
     have k37:Keep (·=q) W3 w7:=k36.no.trans k7 (fun _ _ e=>e)
     refine hK _ _ k37 ?_
     clear hK K
     refine Qx rfl rfl (fun K hK=>?_)
     go_simp
     refine hK _ _ k37 ?_
     clear hK K
     refine Qh (Jz ?_)
     iterate 2 (refine Qk (v:=?_) rfl rfl rfl ?_ ?_;rotate_left;focus (
      intro w' hS
      go_simp
      try with_reducible rfl))
     refine Qj ?_
     refine Qx rfl rfl (fun K hK=>?_)
     go_simp
     refine hK _ _ k37 ?_
     clear hK K
     refine Qx rfl rfl (fun K hK=>?_)
     go_simp
     refine hK _ _ k37 ?_
     clear hK K
     refine Qh (stagesFN_nil ?_)
     go_wp2_with fail
     go_meet
     exact ⟨rfl,HH.out.1.wrote (HB.out.1.then k36) hx7 k7 o7⟩
  case rest =>
   obtain ⟨rfl,hw⟩:=hcut
   rename World=>W7
   go_wp2_with fail
   go_ret
   exact ⟨fun h=>(hle2.mp h).elim,fun _=>⟨rfl,hw⟩⟩
def ROpen [bn:Inhabited Ban] (base:Nat) (w:World) (q:Nat) (lv:Value) (x':Qn) (width n:Nat) (size c:Int) (e:Ending) (w':World):Prop :=
 ∃ v,e=.returned (.tuple #[v,.int .i64 c])/\Keep (·=q) w w'/\((c=0/\∃ (p:Nat) (lv':Value),v=.pointer (some ⟨p,0,none⟩)/\w.heap.size<=p/\Jg base w' p q lv' x'.sync width size n/\∀ b,lv'.ownBlock=some b->lv.ownBlock=some b\/w.heap.size<=b)\/(c=5/\v=.pointer none))
theorem r16Open_spec [bn:Inhabited Ban] {base:Nat} {w:World} {q width j cnt:Nat} {lv:Value} {x x':Qn} {size c:Int} {ss ss':List SegL} {ts:List LRec} {d d':Qr} (h:Zs base w q lv x) (h7:Log7 j cnt (Zk ts) ss d x) (hj:j<=449)
  (hcan:∀ (k:Nat) r,ts[k]?=some r->(told width (ts.take k)).can r) (hrl:∀ r∈ts,r.bytes.length<=1000) (hinc:(told width ts).inc<=1000000) (hw:1<=width/\width<=1024) (hz:1<=size) (hb:base<=w.heap.size) (hT:ban.top<=w.heap.size)
  (hap:x.append (appS (logD size ss)).n (appB (logD size ss) (LRec.inc ((told width ts).inc+1)).bytes)=(x',c)) (hc:(c=0/\Log7 (j+1) cnt (Zk (ts++[.inc ((told width ts).inc+1)])) ss' d' x')\/c=5) :
  Calls Tryz.prog 50 #[.pointer (some ⟨q,0,none⟩),.int .u64 width,.int .i64 size] w (ROpen base w q lv x' width (ts.length+1) size c):=by
 have hw1:¬(width:Int)<1:=by omega
 have hw2:¬(1024:Int)<(width:Int):=by omega
 have hz1:¬size<1:=by omega
 obtain ⟨W1,hW1⟩:∃ W1,W1=w.alloc (.cells #[.pointer (some ⟨q,0,none⟩),.int .u64 width,.int .i64 size,.int .i64 0] 157):=⟨_,rfl⟩
 have hp1:W1.heap[w.heap.size]?=some (.cells #[.pointer (some ⟨q,0,none⟩),.int .u64 width,.int .i64 size,.int .i64 0] 157 (0,0)):=by rw [hW1];exact Qy _ _
 have k1:Keep No w W1:=by rw [hW1];exact (Keep.refl _ _).alloc _
 obtain ⟨L,hL⟩:∃ L,L=told width ts:=⟨_,rfl⟩
 have htl:Jc width ts (told width ts):=⟨rfl,rfl,rfl,hcan⟩
 have hR:RR base W1 w.heap.size q lv x width size 0 ss ts L j cnt d:=⟨⟨hp1,h.no k1,hb⟩,h7,by omega,by rw [hL];exact htl,by rw [hL];exact Gb hw hcan,hrl⟩
 rw [<- hL] at hinc hap hc
 clear hL htl
 obtain ⟨n,hn⟩:∃ n,n=L.inc:=⟨_,rfl⟩
 rw [<- hn] at hinc hap hc
 have hb1:=Nat.le_trans hb k1.size
 have hT1:=Nat.le_trans hT k1.size
 have htold:=hR.told hb1 hT1
 have htold:Calls Tryz.prog 74 #[.pointer (some ⟨w.heap.size,0,none⟩),.int .i64 (-1)] W1 fun e w'=>∃ cs,e=.returned (.tuple #[.agg cs,.int .i64 0])/\(cs.size=66/\cs.all (·.oneCell')=true/\(Tryz.prog.info? 168).map (·.size)=some cs.size/\cs[0]?=some (.int .u64 n))/\Keep No W1 w':=by
  refine htold.mono ?_
  rintro e w' ⟨cs,rfl,hs,k⟩
  exact ⟨_,rfl,⟨hs.size,hs.all,hs.info,by rw [hn];exact hs.inc⟩,k⟩
 have hnw:IntKind.u64.wrap ((n:Int)+1)=((n+1:Nat):Int):=by rw [wraps_u64 _ (by omega) (by omega)];rfl
 have hnb:=Qp (n:=n+1) (by omega)
 have hlen:(LRec.inc (n+1)).bytes.length<=1000:=by simp [LRec.bytes];omega
 have HA:=Lib.hid (A11 hR k1 hb1 hT1 hap hc hlen hinc hb hj hnb)
 clear hR hp1 k1 hb1 hT1 hap hc hlen hinc hb hj hz hw h h7 hT hnb hn hcan hrl
 go_enter Tryz.func50,Tryz.ntmps50
 go_upto_region 4 with fail
 rw [<- hW1]
 clear hW1
 go_upto_region 5 with (first
  | (go_at_call 74;refine htold.mono ?_;rintro e w2 ⟨cs,rfl,⟨hsz,hone,hinf,hc0⟩,k2⟩)
  | (refine wpList_store_row rfl 168 _ _ rfl w2.heap.size cs rfl rfl 168 Tryz.zeroCells168 (Qy _ _) hinf (by rw [hsz];rfl) hone ?_))
 have hz9:=setRow_heap _ w2.heap.size _ cs _ _ (Qy w2 (.cells Tryz.zeroCells168 168))
 have k3:Keep No w2 ((w2.alloc (.cells Tryz.zeroCells168 168)).setRow w2.heap.size cs):=((Keep.refl No w2).alloc _).trans (Zi _ w2.heap.size cs) (fun c hc e=>by have e:c=w2.heap.size:=e;omega)
 generalize (w2.alloc (.cells Tryz.zeroCells168 168)).setRow w2.heap.size cs=W3 at *
 have d0:=Qq hz9 0
 rw [hc0] at d0
 have k13:=k2.then k3
 clear hz9 hc0 hinf hone hsz htold k2 k3
 have hb3:=Nat.le_trans HA.out.2.2.1 k13.size
 have hT3:=Nat.le_trans HA.out.2.2.2.1 k13.size
 have hby:=Vc W3 1 (by decide)
 have kby:=(Keep.refl No W3).alloc (.cells #[.int .u8 1] 5)
 have hnum:Calls Tryz.prog 98 #[.int .u64 (n+1:Nat)] (W3.alloc (.cells #[.int .u8 1] 5)) _:=Jo 9 (n+1) (by have:=HA.out.2.2.2.2.2.2.2.1;omega) (by have:=HA.out.2.2.2.2.2.2.2.1;omega) (W3.alloc (.cells #[.int .u8 1] 5))
 have d0:=kby.cell d0 (fun e=>e)
 have HB:=Lib.hid (A5 hby kby hb3 hT3 k13)
 clear hby kby hb3 hT3 k13
 go_upto_region 7 with fail
 go_wp2_with fail
 refine hnum.mono ?_
 rintro e w4 ⟨v4,rfl,own4,k4⟩
 obtain ⟨o4,c4,e4⟩:=own4.form
 have hb4:=own4.bytes (base:=base) (fun _=>Nat.le_trans HB.out.2.2.2.1 HB.out.2.1.size)
 have hby4:=(HB.out.1.keep k4 (fun _ _ e=>e)).bytes (base:=base) (fun _=>HB.out.2.2.2.1)
 have hsl:=Ko hby4 hb4
 have hjn:=Xv hsl (by have:=HA.out.2.2.2.2.2.2.2.2.2.2;simp;omega)
 have he:[[UInt8.ofNat 1],numB (n+1)].flatten=(LRec.inc (n+1)).bytes:=by simp [LRec.bytes]
 rw [he] at hjn
 obtain ⟨l4,hl4⟩:∃ l4,l4=(numB (n+1)).length:=⟨_,rfl⟩
 rw [<- hl4] at e4
 subst e4
 have kA:=(Keep.refl No w4).alloc (.cells #[.slice (some ⟨W3.heap.size,0,none⟩) 1 1,.slice o4 l4 c4] 59)
 have k34:=(HB.out.2.1.then k4).then kA
 have HC:=Lib.hid k34
 clear hnum own4 k4 hb4 hby4 hsl he kA k34 hl4
 go_wp2_with fail
 refine hjn.mono ?_
 rintro e w5 ⟨v5,rfl,own5,k5⟩
 have k15:=(HB.out.2.2.2.2.then HC.out).then k5
 have hb5:=Nat.le_trans HA.out.2.2.1 k15.size
 have hT5:=Nat.le_trans HA.out.2.2.2.1 k15.size
 have hv5:=own5.bytes (base:=base) (fun _=>Nat.le_trans HB.out.2.2.2.1 HC.out.size)
 have hR5:=HA.out.1.no k15
 have happ:=hR5.app hb5 hT5 hv5 (by have:=HA.out.2.2.2.2.2.2.1;omega)
 rw [HA.out.2.2.2.2.1] at happ
 have happ:Calls Tryz.prog 96 #[.pointer (some ⟨q,0,none⟩),.int .i64 size,v5] w5 fun e w'=>∃ (nx:Int) (lv':Value),e=.returned (.tuple #[.int .u64 nx,.int .i64 c])/\Zs base w' q lv' x'/\Keep (·=q) w5 w'/\∀ b,lv'.ownBlock=some b->lv.ownBlock=some b\/w5.heap.size<=b:=happ.mono (fun e w' ⟨lv',h1,h2,h3,h4⟩=>⟨_,lv',h1,h2,h3,h4⟩)
 obtain ⟨o5,c5,e5⟩:=own5.form
 obtain ⟨l5,hl5⟩:∃ l5,l5=(LRec.inc (n+1)).bytes.length:=⟨_,rfl⟩
 rw [<- hl5] at e5
 subst e5
 have HD:=Lib.hid (A4 hR5 hb5 hT5 k15)
 clear hjn own5 k5 k15 hb5 hT5 hv5 hR5 d0 hl5
 go_upto_region 8 with (go_at_call 96;refine happ.mono ?_;rintro e w6 ⟨nx,lv6,rfl,hx6,k6,o6⟩)
 have hwr:=HD.out.1.wrote (Keep.refl _ _) hx6 k6 o6
 have HW:=Lib.hid hwr
 have HK:=Lib.hid k6
 clear hwr hx6 o6 happ k6
 rcases HA.out.2.2.2.2.2.1 with ⟨rfl,h7'⟩ | rfl
 ·obtain ⟨lv7,hR6,_,ho6⟩:=HW.out
  have hg:=h7'.good
  have hlen:=hg.len
  have hsum:=hg.sum
  have hj:=HA.out.2.2.2.2.2.2.2.2.2.1
  have hrec:(Qw ss').length=ts.length+1:=by rw [h7'.recs];simp [Zk]
  have hmany:=HA.out.1.many
  have hsy:=r16Sync_spec hR6 (Nat.le_trans HD.out.2.1 HK.out.size) (Nat.le_trans HD.out.2.2.1 HK.out.size) (by omega) (by omega) hg.map (hg.segsOk (by omega)) (by omega)
  rw [hrec] at hsy
  have HE:=Lib.hid (A2 ho6 hR6.pb)
  clear hR6 ho6 hg hlen hsum hj hrec hmany h7'
  go_wp2_with (go_at_call 70;refine hsy.mono ?_;rintro e w7 ⟨⟨v7,rfl⟩,hR7,k7⟩)
  go_ret2
  have k05:Keep (·=q) w w6:=(HA.out.2.1.then HD.out.2.2.2).no.trans HK.out (fun _ _ e=>e)
  have hs5:=(HA.out.2.1.then HD.out.2.2.2).size
  exact ⟨_,rfl,k05.trans k7 (fun b hb e=>by
   rcases e with e | e
   ·omega
   ·exact e),.inl ⟨rfl,w.heap.size,lv7,rfl,Nat.le_refl _,hR7,fun b hb=>(HE.out.1 b hb).imp id (fun e=>Nat.le_trans hs5 e)⟩⟩
 ·go_wp2_with fail
  go_ret2
  exact ⟨_,rfl,(HA.out.2.1.then HD.out.2.2.2).no.trans HK.out (fun _ _ e=>e),.inr ⟨rfl,rfl⟩⟩
theorem slices4 [bn:Inhabited Ban] {base:Nat} {w:World} {v1 v2 v3 v4:Value} {a b c d:Qs} (h1:Qv base w v1 a) (h2:Qv base w v2 b) (h3:Qv base w v3 c) (h4:Qv base w v4 d) :
  Zb base (w.alloc (.cells #[v1,v2,v3,v4] 59)) (.slice (some ⟨w.heap.size,0,none⟩) 4 4) [a,b,c,d]:=by
 have kA:Keep No w (w.alloc (.cells #[v1,v2,v3,v4] 59)):=(Keep.refl _ _).alloc _
 exact Zb.of_block (Qy w _) [a,b,c,d] rfl (by simp [maxLen]) (fun i u l e1 e2=>by
  match i,e1,e2 with
  | 0,e1,e2=>simp at e1 e2;subst e1 e2;exact h1.no kA
  | 1,e1,e2=>simp at e1 e2;subst e1 e2;exact h2.no kA
  | 2,e1,e2=>simp at e1 e2;subst e1 e2;exact h3.no kA
  | 3,e1,e2=>simp at e1 e2;subst e1 e2;exact h4.no kA)
theorem r16Put_bad {w:World} (v:Value) (a:Int) (b:Nat) (iv:Value) (h:a<0\/15<a\/2305843009213693952<=b) :
  Calls Tryz.prog 72 #[v,.int .i64 a,.int .u64 b,iv] w fun r w'=>r=.returned (.tuple #[.slice none 0 0,.int .i64 1])/\w'=w:=by
 by_cases h1:a<0
 ·go_enter Tryz.func72,Tryz.ntmps72
  go_wp2
  go_ret2
  exact ⟨rfl,rfl⟩
 ·by_cases h2:15<a
  ·go_enter Tryz.func72,Tryz.ntmps72
   go_wp2
   go_ret2
   exact ⟨rfl,rfl⟩
  ·have h3:((2305843009213693952:Int)<=(b:Int))=True:=eq_true (by omega)
   go_enter Tryz.func72,Tryz.ntmps72
   go_wp2
   go_ret2
   exact ⟨rfl,rfl⟩
theorem r16Put_wrong [bn:Inhabited Ban] {base:Nat} {w:World} {v iv:Value} {a b:Nat} {l:List Qc} (ha:a<16) (hb:b<2305843009213693952) (h:Gs base w iv l) (hl:l.length<=64) (hbl:∀ x∈l,x.s.body.length<=1073741824) (hr:Yv b l=false) :
  Calls Tryz.prog 72 #[v,.int .i64 a,.int .u64 b,iv] w fun r w'=>r=.returned (.tuple #[.slice none 0 0,.int .i64 1])/\Keep No w w':=by
 obtain ⟨io,ic,rfl,_,_⟩:=BRow.form h
 have hai:(a:Int)<16:=by omega
 have hbi:((2305843009213693952:Int)<=(b:Int))=False:=eq_false (by omega)
 have h64:(l.length:Int)<=64:=by omega
 have hnr:¬∀ x∈l,x.Right:=fun e=>by
  have:=(Jm b l).2 ⟨e,hb⟩
  rw [hr] at this
  cases this
 have HH:=Lib.hid (A3 h hbl hnr)
 clear h hbl hnr hr hl ha hb
 go_enter Tryz.func72,Tryz.ntmps72
 go_wp2_with fail
 go_loopw [35] (fun v35 wr=>∃ k,v35=.int .i64 (k:Nat)/\k<=l.length/\(∀ x∈l.take k,x.Right)/\Keep No w wr) (fun v35 _=>l.length - (intOf v35).toNat)
 case atStart=>exact ⟨0,rfl,Nat.zero_le _,fun x hx=>by simp at hx,Keep.refl _ _⟩
 case round =>
  obtain ⟨k,rfl,hk,hall,kr⟩:=hrel
  by_cases hlt:k<l.length
  ·have hx:l[k]?=some l[k]:=List.getElem?_eq_getElem hlt
   have htake:l.take (k+1)=l.take k++[l[k]]:=List.take_succ_eq_append_getElem hlt
   generalize l[k]=z at hx htake
   have hzb:=HH.out.2.1 z (List.mem_of_getElem? hx)
   obtain ⟨gi,ui,hgi,hub,_,_,hcs⟩:=BRow.at' (BRow.no HH.out.1 kr) (fun _ _=>rfl) hx
   have e0:=hcs 0 _ rfl
   rw [Nat.add_zero] at e0
   have e1:=hcs 1 _ rfl
   have e2:=hcs 2 _ rfl
   obtain ⟨uo,uc,rfl⟩:=hub.form
   subst hgi
   have hki:(k:Int)<(l.length:Int):=by omega
   have kA:=(Keep.refl No wr).alloc (.cells #[.int .u64 z.n,.int .i64 z.s.c,.slice uo z.s.body.length uc] 206)
   have hnewA:=Qy wr (.cells #[.int .u64 z.n,.int .i64 z.s.c,.slice uo z.s.body.length uc] 206)
   have hrt:Calls Tryz.prog 120 #[.agg #[.int .i64 z.s.c,.slice uo z.s.body.length uc]] (wr.alloc (.cells #[.int .u64 z.n,.int .i64 z.s.c,.slice uo z.s.body.length uc] 206)) _:=r4Right_spec (by omega)
   by_cases hs:z.s.right=true
   ·by_cases hn:z.n<2305843009213693952
    ·have hni:((2305843009213693952:Int)<=(z.n:Int))=False:=eq_false (by omega)
     have hzr:z.Right:=⟨hn,by simpa [Ys.right,Ys.Right] using hs⟩
     rw [hs] at hrt
     have HR:=Lib.hid (A6 (kr.then kA) hnewA hlt hall htake hzr)
     clear kr kA hnewA hall htake hzr hs hn hx hzb hub hcs hk hlt
     go_wp2_with (go_at_call 120;refine hrt.mono ?_;rintro e w2 ⟨rfl,k2⟩;have hn2:=k2.heap HR.out.2.1 (fun e=>e);have n0:=Qq hn2 0;simp at n0)
     go_roundw
     case rel =>
      refine ⟨k+1,by congr 1,by have:=HR.out.2.2.1;omega,?_,HR.out.1.then k2⟩
      rw [HR.out.2.2.2.2.1]
      intro x hx
      rcases List.mem_append.1 hx with hx | hx
      ·exact HR.out.2.2.2.1 x hx
      ·rw [List.mem_singleton.1 hx];exact HR.out.2.2.2.2.2
     case measure=>have:=HR.out.2.2.1;simp [intOf];omega
    ·have hni:((2305843009213693952:Int)<=(z.n:Int))=True:=eq_true (by omega)
     rw [hs] at hrt
     have HR:=Lib.hid (A2 (kr.then kA) hnewA)
     clear kr kA hnewA hall htake hs hn hx hzb hub hcs hk hlt
     go_wp2_with (go_at_call 120;refine hrt.mono ?_;rintro e w2 ⟨rfl,k2⟩;have hn2:=k2.heap HR.out.2 (fun e=>e);have n0:=Qq hn2 0;simp at n0)
     go_ret2
     exact ⟨rfl,HR.out.1.then k2⟩
   ·have hs:z.s.right=false:=by simpa using hs
    rw [hs] at hrt
    have HR:=Lib.hid (A2 (kr.then kA) hnewA)
    clear kr kA hnewA hall htake hs hx hzb hub hcs hk hlt
    go_wp2_with (go_at_call 120;refine hrt.mono ?_;rintro e w2 ⟨rfl,k2⟩;have hn2:=k2.heap HR.out.2 (fun e=>e);have n0:=Qq hn2 0;simp at n0)
    go_ret2
    exact ⟨rfl,HR.out.1.then k2⟩
  ·have hke:k=l.length:=by omega
   rw [hke,List.take_of_length_le (Nat.le_refl _)] at hall
   exact absurd hall HH.out.2.2
end Go.Proofs.YtfdmbomlkpkegaaGreat
