/- Lemmas for ReceiverNil. -/
import Derived.Test.YtfdmbomlkpkegaaGreatS4
import Derived.Deep.CutBlock
import Derived.Deep.DeepCutAuto
import Derived.Test.YtfdmbomlkpkegaaGreatS19
set_option maxRecDepth 100000
set_option maxHeartbeats 8000000
set_option linter.all false
namespace Go.Proofs.YtfdmbomlkpkegaaGreat
open Go Go.RowKit Go.Dr
def Xx (rs:List Qs):Qs:=(rs.map recB).flatten
theorem recsB_cons (r:Qs) (rs:List Qs):Xx (r :: rs)=recB r++Xx rs:=rfl
theorem Kn (a b:List Qs):Xx (a++b)=Xx a++Xx b:=by simp [Xx]
def TornB (t:Qs):Prop:=t.length<8\/(takeN (t.take 4)<=1048576/\t.length<8+takeN (t.take 4))
theorem rec_parts (r rest:Qs) (hr:r.length<=1048576) :
  8+r.length<=(recB r++rest).length/\takeN ((recB r++rest).take 4)=r.length/\(recB r++rest).take 4=layB r.length 4/\takeN (((recB r++rest).take 8).drop 4)=moreN (moreN 0 (layB r.length 4)) r /\
   ((recB r++rest).take (8+r.length)).drop 8=r/\((recB r++rest).take (recB r++rest).length).drop (8+r.length)=rest:=by
 have h1:(recB r++rest).take 4=layB r.length 4:=by
  unfold recB
  rw [List.append_assoc,List.take_append_of_le_length (by simp [Zu]),List.take_of_length_le (by simp [Zu])]
 have h2:((recB r++rest).take 8).drop 4=layB (moreN 0 (layB r.length 4++r)) 4:=by
  unfold recB
  rw [List.drop_take,List.append_assoc,List.drop_left' (by rw [Zu]),List.append_assoc,List.take_append_of_le_length (by simp [Zu]),List.take_of_length_le (by simp [Zu])]
 have h3:∀ x:Qs,(recB r++x).drop 8=r++x:=fun x=>by
  unfold recB
  rw [<- List.append_assoc,List.append_assoc,List.drop_left' (by simp [Zu])]
 refine ⟨by rw [List.length_append,Zl];omega,?_,h1,?_,?_,?_⟩
 ·rw [h1,Uf];exact Nat.mod_eq_of_lt (by omega)
 ·rw [h2,Uf,moreN_append]
  exact Nat.mod_eq_of_lt (by have:=Kc 0 (layB r.length 4++r);omega)
 ·rw [List.drop_take,h3,show 8+r.length - 8=r.length by omega,List.take_append_of_le_length (Nat.le_refl _),List.take_of_length_le (Nat.le_refl _)]
 ·rw [List.take_of_length_le (Nat.le_refl _),<- List.drop_drop,h3,List.drop_left' rfl]
theorem Zd.pushed [bn:Inhabited Ban] {base:Nat} {w w':World} {g p:Nat} {sv lv v':Value} {L:LogS} {rs:List Qs} (h:Zd base w g p sv lv L) (k:Keep (fun b=>lv.ownBlock=some b) w w') (_hr:Vi base w' v' rs) :
  w'.heap[g]?=some (.cells #[.pointer (some ⟨p,0,none⟩),.int .i64 L.size,sv,lv,.int .u64 L.next] 130 (0,0))/\Jn base w' sv L.segs:=by
 obtain ⟨us,_,_,hrr⟩:=h.recs
 refine ⟨k.heap h.blk (fun e=>?_),Yu h.segs k (fun b e1 e2=>?_)⟩
 ·obtain ⟨_,cur,hz⟩:=Vf hrr g e
  rw [h.blk] at hz;simp at hz
 ·obtain ⟨_,cur,hz⟩:=Vf hrr b e2
  obtain ⟨_,cur2,hz2⟩:=Qa h.segs b e1
  rw [hz] at hz2;simp at hz2
def RecsR [bn:Inhabited Ban] (base:Nat) (w:World) (g p:Nat) (sv lv:Value) (L:LogS) (rs:List Qs) (tail:Qs) (pv:Value) (wr:World):Prop :=
 ∃ (j:Nat) (lv':Value),j<=rs.length/\Qv base wr pv (Xx (rs.drop j)++tail)/\Zd base wr g p sv lv' { L with recs:=L.recs++rs.take j,next:=L.next+j }/\Keep (Yg g sv lv) w wr /\
  ∀ b,lv'.ownBlock=some b->lv.ownBlock=some b\/w.heap.size<=b
def RecsPost [bn:Inhabited Ban] (base:Nat) (w:World) (g p:Nat) (sv lv:Value) (L:LogS) (rs:List Qs) (tail:Qs) (e:Ending) (w':World):Prop :=
 ∃ v' lv',e=.returned (.tuple #[v',.int .i64 0])/\Qv base w' v' tail/\Zd base w' g p sv lv' { L with recs:=L.recs++rs,next:=L.next+rs.length }/\Keep (Yg g sv lv) w w' /\
  ∀ b,lv'.ownBlock=some b->lv.ownBlock=some b\/w.heap.size<=b
theorem RecsR.post [bn:Inhabited Ban] {base:Nat} {w wr:World} {g p:Nat} {sv lv lv':Value} {L:LogS} {rs:List Qs} {tail:Qs} {pv:Value} {j:Nat} (hj:j=rs.length) (h1:Qv base wr pv (Xx (rs.drop j)++tail))
  (h2:Zd base wr g p sv lv' { L with recs:=L.recs++rs.take j,next:=L.next+j }) (h3:Keep (Yg g sv lv) w wr) (h4:∀ b,lv'.ownBlock=some b->lv.ownBlock=some b\/w.heap.size<=b) :
  RecsPost base w g p sv lv L rs tail (.returned (.tuple #[pv,.int .i64 0])) wr:=by
 subst hj
 rw [List.drop_length] at h1
 rw [List.take_length] at h2
 exact ⟨pv,lv',rfl,h1,h2,h3,h4⟩
theorem lrecords_spec [bn:Inhabited Ban] {base:Nat} {w:World} {g p:Nat} {sv lv pv:Value} {L:LogS} {rs:List Qs} {tail:Qs} (h:Zd base w g p sv lv L) (hb:base<=w.heap.size) (hT:ban.top<=w.heap.size)
  (hp:Qv base w pv (Xx rs++tail)) (hr:∀ r∈rs,r.length<=1048576) (ht:TornB tail) (hn:L.next+rs.length<=9223372036854775807) (hl:L.recs.length+rs.length<=1099511627776) (hz:(Xx rs++tail).length<=1099511627776) :
  Calls Tryz.prog 155 #[.pointer (some ⟨g,0,none⟩),pv] w (RecsPost base w g p sv lv L rs tail):=by
 have hstart:RecsR base w g p sv lv L rs tail pv w:=⟨0,lv,Nat.zero_le _,by simpa using hp,by simpa using h,Keep.refl _ _,fun b e=>.inl e⟩
 obtain ⟨ao,cap,rfl⟩:=hp.form
 have HN:=Lib.hid (A5 hn hl hb hT hz)
 clear h hb hT hp hn hl hz
 generalize hlen:(Xx rs++tail).length=len at *
 have HLEN:=Lib.hid hlen
 clear hlen
 go_enter Tryz.func155,Tryz.ntmps155
 go_wp2
 go_loopw [1] (fun pv wr=>RecsR base w g p sv lv L rs tail pv wr) (fun pv _=>match pv with | .slice _ n _=>n | _=>0)
 case atStart=>exact hstart
 case round =>
  clear hstart
  obtain ⟨pv',hpv⟩:∃ x,x=u1:=⟨_,rfl⟩
  rw [<- hpv] at hrel ⊢
  obtain ⟨j,lv',hj,hB,hL,hK,hO⟩:=hrel
  clear hpv
  by_cases hlt:j<rs.length
  ·have hrj:rs[j]?=some rs[j]:=List.getElem?_eq_getElem hlt
   have hrl:=hr _ (List.getElem_mem hlt)
   have hdr:rs.drop j=rs[j] :: rs.drop (j+1):=List.drop_eq_getElem_cons hlt
   have htk:rs.take (j+1)=rs.take j++[rs[j]]:=by rw [List.take_add_one,hrj];rfl
   generalize rs[j]=r at *
   rw [hdr,recsB_cons,List.append_assoc] at hB
   obtain ⟨q1,q2,q3,q4,q5,q6⟩:=rec_parts r (Xx (rs.drop (j+1))++tail) hrl
   generalize hrest:Xx (rs.drop (j+1))++tail=rest at *
   have HRE:=Lib.hid hrest
   have hz1:(recB r++rest).length<=1099511627776:=by
    have h1:=HLEN.out
    have h2:=HN.out.2.2.2.2
    have h3:Xx rs=Xx (rs.take j)++Xx (rs.drop j):=by rw [<- Kn,List.take_append_drop]
    rw [h3,hdr,recsB_cons,List.append_assoc,List.append_assoc,hrest,List.length_append] at h1
    omega
   clear hrest
   have hlr:j+1<=rs.length:=hlt
   generalize recB r++rest=l1 at *
   have hB0:=hB
   obtain ⟨po,pc,rfl⟩:=hB.form
   have hpc:l1.length<=pc/\pc<=maxLen:=by obtain ⟨_,_,hq,h1,h2,_⟩:=hB0;simp at hq;omega
   unfold maxLen at hpc
   obtain ⟨hpc1,hpc2⟩:=hpc
   have b4:=hB0.take 4 (by omega)
   have tk1:=take_spec b4 (by rw [List.length_take];omega)
   rw [q2] at tk1
   obtain ⟨o1,c1,run1,sub1⟩:=Ub po l1.length pc 8 (8+r.length) 8 (8+(r.length:Int)) rfl (by omega) (by omega) q1 hpc1
   have bq:=sub1 _ _ _ hB0
   rw [q5] at bq
   rw [show 8+r.length - 8=r.length by omega] at bq run1
   obtain ⟨o2,c2,run2,sub2⟩:=Ub po l1.length pc 4 8 4 8 rfl rfl (by omega) (by omega) hpc1
   have b8:=sub2 _ _ _ hB0
   have tk2:=fun (w':World) (k:Keep No wr w')=>take_spec (b8.no k) (by simp;omega)
   rw [q4] at tk2
   have hsum:=fun (w':World) (k:Keep No wr w')=>sum_spec (b4.no k)
   rw [q3] at hsum
   have hs1:=Kc 0 (layB r.length 4)
   generalize moreN 0 (layB r.length 4)=s1 at *
   have hmore:=fun (w':World) (k:Keep No wr w')=>more_spec (bq.no k) s1 hs1
   have hs2:=Kc s1 r
   generalize moreN s1 r=s2 at *
   have hclone:=fun (w':World) (k:Keep No wr w')=>Ju (bq.no k) (by omega)
   obtain ⟨o3,c3,run3,sub3⟩:=Rg po l1.length pc (8+r.length) (8+(r.length:Int)) (by omega) q1 hpc1
   have br:=sub3 _ _ _ hB0
   rw [q6] at br
   have hs2w:IntKind.u64.wrap (s2:Int)=(s2:Int):=wraps_u64 _ (by omega) (by omega)
   have hl8:(8:Int)<=(l1.length:Int):=by omega
   have hri:¬((1048576:Int)<(r.length:Int)):=by omega
   have hri2:(r.length:Int)<=1099511627776:=by omega
   have hrj2:¬((l1.length:Int) - 8<(r.length:Int)):=by omega
   have hl1i:(l1.length:Int)<=1099511627776:=by omega
   have hcap4:(4:Int)<=(pc:Int):=by omega
   have HT:=Lib.hid (A4 tk2 hsum hmore hclone)
   have HB:=Lib.hid (A2 br hO)
   have HQ:=Lib.hid (A3 hlr htk q1)
   clear tk2 hsum hmore hclone br hO hs1 hs2 q1 q2 q3 q4 q5 q6 sub1 sub2 sub3 b4 b8 bq hB hB0 hlr htk hdr hrj hrl hlt hj hpc1 hpc2 hz1
   generalize l1.length=m at *
   generalize r.length=n at *
   go_wp2_with (go_at_call 154;refine tk1.mono ?_;rintro e w1 ⟨rfl,rfl⟩)
   refine Ql (fun w'=>Keep No w1 w') [0,1,3,4,6] [2,5,7,8,9] [] (by kernel_rfl) (by kernel_rfl) (fun _ _ _ _ _ h=>h) (Keep.refl _ _).drew ?_
   have kd:Keep No w1 w1.drew:=(Keep.refl _ _).drew
   iterate 5 (refine Qk (v:=?_) rfl rfl rfl ?_ ?_;rotate_left;focus (
    intro w' hq
    go_simp
    try with_reducible rfl))
   refine Qj ?_
   refine Qx rfl rfl (fun K hK=>?_)
   go_simp
   refine (HT.out.1 _ kd).mono ?_
   rintro e w2 ⟨rfl,rfl⟩
   refine hK _ _ kd ?_
   clear hK K
   refine Qx rfl rfl (fun K hK=>?_)
   go_simp
   refine (HT.out.2.1 _ kd).mono ?_
   rintro e w2 ⟨rfl,k2⟩
   have kd:=kd.then k2
   refine hK _ _ kd ?_
   clear hK K
   refine Qx rfl rfl (fun K hK=>?_)
   go_simp
   refine (HT.out.2.2.1 _ kd).mono ?_
   rintro e w3 ⟨rfl,k3⟩
   have kd:=kd.then k3
   refine hK _ _ kd ?_
   clear hK K
   iterate 2 (refine Qx rfl rfl (fun K hK=>?_);go_simp;refine hK _ _ kd ?_;clear hK K)
   refine Qh (Qm ?_)
   go_upto_region 10 with fail
   have hL3:=hL.no kd
   have hclone:=HT.out.2.2.2
   have hdl:(L.recs++rs.take j).length<=1099511627776:=by have:=HQ.out.1;have:=HN.out.2.1;simp;omega
   have hnx:L.next+j+1<=9223372036854775807:=by have:=HQ.out.1;have:=HN.out.1;omega
   generalize hdn:L.recs++rs.take j=dn at hL3 hdl
   generalize hnj:L.next+j=nx at hL3 hnx
   obtain ⟨lo,lc,rfl,hlc1,hlc2⟩:=hL3.recs.form
   have d3:=Qq hL3.blk 3
   simp at d3
   have hng:¬(Value.slice lo dn.length lc).ownBlock=some g:=fun e=>by
    obtain ⟨us,_,_,hrr⟩:=hL3.recs
    obtain ⟨_,cur,hz⟩:=Vf hrr g e
    rw [hL3.blk] at hz;simp at hz
   have hkd:=hK.then kd
   have HDN:=Lib.hid (A3 hdn hnj hnx)
   have HKD:=Lib.hid (A2 hkd hdl)
   clear hL hK HT tk1 run1 run2 hs2w hri hri2 hrj2 hl8 hdn hkd hdl hcap4 hlc1 hlc2 hnj hnx
   generalize hdm:dn.length=dm at *
   refine Ql (fun w'=>Keep (fun b=>(Value.slice lo dm lc).ownBlock=some b) w3 w') [0,1,2,3,4,5] [6,7,8] [9,10,11] (by kernel_rfl) (by kernel_rfl) (fun _ _ _ _ _ h=>h) (Keep.refl _ _).drew ?_
   have kd3:Keep No w3 w3.drew:=(Keep.refl _ _).drew
   iterate 6 (refine Qk (v:=?_) rfl rfl rfl ?_ ?_;rotate_left;focus (
    intro w' hq
    have d3':=hq.cell d3 hng
    go_simp
    try with_reducible rfl))
   refine Qj ?_
   refine Qx rfl rfl (fun K hK=>?_)
   go_simp
   refine (hclone _ (kd.then kd3)).mono ?_
   rintro e w4 ⟨v4,rfl,own4,k4⟩
   have hu4:=own4.bytes (base:=base) (fun _=>Nat.le_trans HN.out.2.2.2.1 (HKD.out.1.then kd3).size)
   obtain ⟨o4,c4,rfl⟩:=own4.form
   have kd4:=kd3.then k4
   refine hK _ _ kd4.no ?_
   clear hK K
   refine Qx rfl rfl (fun K hK=>?_)
   go_simp
   have kA:Keep No w4 (w4.alloc (.cells #[.slice o4 r.length c4] 59)):=(Keep.refl _ _).alloc _
   have kd5:=kd4.then kA
   have hb5:=Qy w4 (.cells #[.slice o4 r.length c4] 59)
   have hu5:=hu4.no kA
   refine hK _ _ kd5.no ?_
   clear hK K
   have hL5:=hL3.no kd5
   refine Qx rfl rfl (fun K hK=>?_)
   refine wp_append_tail _ _ rfl hL5.recs rfl hb5 rfl hu5 (by show dn.length<=_;rw [hdm];exact HKD.out.2) (Nat.le_trans HN.out.2.2.1 (HKD.out.1.then kd5).size) ?_
   intro v6 w6 hr6 k6 own6
   have kS:Keep (fun b=>(Value.slice lo dm lc).ownBlock=some b) w3 w6:=kd5.no.trans k6 (fun _ _ e=>e)
   refine hK _ _ kS ?_
   clear hK K
   refine Qh (Qu rfl (Qu rfl (Qu rfl (Qm ?_))))
   obtain ⟨hb6,hs6⟩:=hL5.pushed k6 hr6
   obtain ⟨a6,c6,rfl,_,_⟩:=hr6.form
   have hsz5:=(HKD.out.1.then kd5).size
   have gb:=hL5.gb
   generalize (dn++[r]).length=x6 at *
   have f3:=Qg hb6 3
   have e3:=Qq hb6 3
   simp at e3
   obtain ⟨hb7,hs7,hr7,k7⟩:=Ut hb6 gb hs6 hr6 3 (.slice a6 x6 c6) rfl
   have hk36:Keep (Yg g sv (.slice lo dm lc)) w3 w6:=kS.mono (fun _ _ e=>.inr (.inr e))
   have hk37:Keep (Yg g sv (.slice lo dm lc)) w3 (w6.setCell ⟨g,3,none⟩ (.slice a6 x6 c6)):=hk36.trans k7 (fun _ _ e=>.inl e)
   have hF3:=hL3.foot
   have br3:=HB.out.1.no kd
   have HX:=Lib.hid (A7 own6 hsz5 hs7 hr7 hk37 hF3 br3)
   have HB7:=Lib.hid hb7
   clear kS k6 k7 hk36 hk37 hs6 hr6 hL5 hb5 hu5 hu4 own4 kd5 kd4 k4 kA hclone hL3 own6 hsz5 hs7 hr7 hF3 br3 hb7 kd3 d3
   go_upto_region 11 with fail
   have hb7:=HB7.out
   generalize w6.setCell ⟨g,3,none⟩ (.slice a6 x6 c6)=w7 at *
   clear hb6 f3 e3
   have d4:=Qq hb7 4
   have f4:=Qg hb7 4
   simp at d4
   have hnw:IntKind.u64.wrap ((nx:Int)+1)=((nx+1:Nat):Int):=by have:=HDN.out.2.2;rw [wraps_u64 _ (by omega) (by omega)];omega
   obtain ⟨hb8,hs8,hr8,k8⟩:=Ut hb7 gb HX.out.2.2.1 HX.out.2.2.2.1 4 (.int .u64 (nx+1:Nat)) rfl
   have H8:=Lib.hid (A4 hb8 hs8 hr8 k8)
   clear hb8 hs8 hr8 k8 hb7
   go_wp2
   go_roundw
   case rel =>
    have hk38:Keep (Yg g sv (.slice lo dm lc)) w3 _:=HX.out.2.2.2.2.1.trans H8.out.2.2.2 (fun _ _ e=>.inl e)
    have e1:L.recs++rs.take (j+1)=dn++[r]:=by rw [HQ.out.2.1,<- List.append_assoc,HDN.out.1]
    have e2:L.next+(j+1)=nx+1:=by have:=HDN.out.2.1;omega
    refine ⟨j+1,.slice a6 x6 c6,HQ.out.1,?_,?_,?_,?_⟩
    ·rw [HRE.out]
     exact HX.out.2.2.2.2.2.2.keep HX.out.2.2.2.2.2.1 hk38
    ·rw [e1,e2]
     exact ⟨H8.out.1,H8.out.2.1,H8.out.2.2.1,gb⟩
    ·refine HKD.out.1.trans hk38 (fun x hx e=>?_)
     rcases e with e | e | e
     ·exact .inl e
     ·exact .inr (.inl e)
     ·rcases HB.out.2 x e with h | h
      ·exact .inr (.inr h)
      ·omega
    ·intro b hb
     rcases HX.out.1 b hb with h | h
     ·exact HB.out.2 b h
     ·exact .inr (Nat.le_trans HX.out.2.1 h)
   case measure =>
    have:=HQ.out.2.2
    simp
    omega
  ·obtain rfl:j=rs.length:=by omega
   have hpost:=RecsR.post (tail:=tail) rfl hB hL hK hO
   have hB0:Qv base wr pv' tail:=by rw [List.drop_length] at hB;exact hB
   have htl:tail.length<=1099511627776:=by have h1:=HLEN.out;have h2:=HN.out.2.2.2.2;rw [List.length_append] at h1;omega
   obtain ⟨po,pc,rfl⟩:=hB0.form
   have HPO:=Lib.hid hpost
   clear hpost hB hL hK hO hlt hj hr
   by_cases h8:tail.length<8
   ·clear ht hB0
    have h8i:¬((8:Int)<=(tail.length:Int)):=by omega
    generalize tail.length=m at *
    clear h8 htl
    go_wp2
    go_ret2
    exact HPO.out
   ·rcases ht with ht | ⟨ht1,ht2⟩
    ·exact absurd ht h8
    ·have hpc:tail.length<=pc/\pc<=maxLen:=by obtain ⟨_,_,hq,h1,h2,_⟩:=hB0;simp at hq;omega
     have b4:=hB0.take 4 (by omega)
     have tk1:=take_spec b4 (by rw [List.length_take];omega)
     generalize takeN (tail.take 4)=n at *
     have hcap4:(4:Int)<=(pc:Int):=by omega
     generalize tail.length=m at *
     have h8i:(8:Int)<=(m:Int):=by omega
     have hm1:(m:Int)<=1099511627776:=by omega
     have hn1:¬((1048576:Int)<(n:Int)):=by omega
     have hn2:(n:Int)<=1099511627776:=by omega
     have hn3:(m:Int) - 8<(n:Int):=by omega
     clear ht1 ht2 h8 htl b4 hB0 hpc
     go_wp2_with (go_at_call 154;refine tk1.mono ?_;rintro e w1 ⟨rfl,rfl⟩)
     go_ret2
     exact HPO.out
structure SegL where
 n:Int
 first:Nat
 headed:Bool
 recs:List Qs
 tail:Qs
def SegL.bytes (s:SegL):Qs:=if s.headed then Xt s.first++(Xx s.recs++s.tail) else s.tail
def SegL.view (s:SegL):SegV:={ n:=s.n,first:=if s.headed then s.first else 0,count:=s.recs.length,size:=s.bytes.length,whole:=s.headed && s.tail.isEmpty,headed:=s.headed }
structure SegL.Ok (s:SegL):Prop where
 head:s.headed=true->1<=s.first/\s.first<4611686018427387904/\(∀ r∈s.recs,r.length<=1048576)/\TornB s.tail
 bare:s.headed=false->s.recs=[]/\s.tail.length<12
def LogS.add (L:LogS) (s:SegL):LogS:={ L with segs:=L.segs++[s.view],recs:=L.recs++s.recs,next:=if s.headed then s.first+s.recs.length else L.next }
def SegPost [bn:Inhabited Ban] (base:Nat) (w:World) (g p:Nat) (sv lv:Value) (L:LogS) (e:Ending) (w':World):Prop :=
 e=.returned (.int .i64 0)/\∃ sv' lv',Zd base w' g p sv' lv' L/\Keep (Yg g sv lv) w w'/\∀ b,Yg g sv' lv' b->Yg g sv lv b\/w.heap.size<=b
theorem Zd.pushedSeg [bn:Inhabited Ban] {base:Nat} {w w':World} {g p:Nat} {sv lv v':Value} {L:LogS} {l:List SegV} (h:Zd base w g p sv lv L) (k:Keep (fun b=>sv.ownBlock=some b) w w') (_:Jn base w' v' l) :
  w'.heap[g]?=some (.cells #[.pointer (some ⟨p,0,none⟩),.int .i64 L.size,sv,lv,.int .u64 L.next] 130 (0,0))/\Vi base w' lv L.recs:=by
 have hF:Foot base w (fun b=>sv.ownBlock=some b):=fun b hb=>h.foot b (.inr (.inl hb))
 obtain ⟨us,_,_,hrr⟩:=h.recs
 refine ⟨k.heap h.blk (fun e=>?_),h.recs.keep hF k (fun b e1 e2=>?_)⟩
 ·obtain ⟨_,cur,hz⟩:=Qa h.segs g e
  rw [h.blk] at hz;simp at hz
 ·obtain ⟨_,cur,hz⟩:=Qa h.segs b e2
  obtain ⟨_,cur2,hz2⟩:=Vf hrr b e1
  rw [hz] at hz2;simp at hz2
theorem Zd.not_seg [bn:Inhabited Ban] {base:Nat} {w:World} {g p:Nat} {sv lv:Value} {L:LogS} (h:Zd base w g p sv lv L):¬sv.ownBlock=some g:=fun e=>by
 obtain ⟨_,cur,hz⟩:=Qa h.segs g e
 rw [h.blk] at hz;simp at hz
theorem lread_bare [bn:Inhabited Ban] {base:Nat} {w:World} {g p:Nat} {sv lv pv:Value} {L:LogS} {s:SegL} (h:Zd base w g p sv lv L) (hb:base<=w.heap.size) (hp:Qv base w pv s.bytes) (ho:s.Ok) (hd:s.headed=false) (hl:L.segs.length<=1000000) :
  Calls Tryz.prog 102 #[.pointer (some ⟨g,0,none⟩),.int .u64 s.n,pv] w (SegPost base w g p sv lv (L.add s)):=by
 obtain ⟨hr,ht⟩:=ho.bare hd
 have hby:s.bytes=s.tail:=by unfold SegL.bytes;rw [hd];rfl
 have hvw:s.view={ n:=s.n,first:=0,count:=0,size:=s.tail.length,whole:=false,headed:=false }:=by unfold SegL.view;rw [hd,hr,hby];rfl
 have hadd:L.add s={ L with segs:=L.segs++[s.view] }:=by unfold LogS.add;rw [hd,hr];simp
 rw [hadd]
 rw [hby] at hp
 obtain ⟨po,pc,rfl⟩:=hp.form
 have hti:(s.tail.length:Int)<12:=by omega
 obtain ⟨sv1,hsv1⟩:∃ c,c=s.view:=⟨_,rfl⟩
 rw [<- hsv1] at hvw ⊢
 have kA:Keep No w (w.alloc (.cells #[.int .u64 s.n,.int .u64 0,.int .u64 0,.int .i64 s.tail.length,.bool false,.bool false] 265)):=(Keep.refl _ _).alloc _
 have hbox:=Qy w (.cells #[.int .u64 s.n,.int .u64 0,.int .u64 0,.int .i64 s.tail.length,.bool false,.bool false] 265)
 have hcell:Yy sv1=[.int .u64 s.n,.int .u64 0,.int .u64 0,.int .i64 s.tail.length,.bool false,.bool false]:=by rw [hvw];rfl
 have h1:=h.no kA
 have hnb:¬sv.ownBlock=some w.heap.size:=fun e=>by have:=h.lt _ (.inr (.inl e));omega
 have HB:=Lib.hid (A4 hb hcell hl kA)
 clear kA
 clear hvw hsv1 hadd hby hr ht hp ho hd h hb hcell hl
 generalize s.tail.length=m at *
 obtain ⟨so,sc,rfl,_,_⟩:=h1.segs.form
 go_enter Tryz.func102,Tryz.ntmps102
 go_upto_region 3 with fail
 generalize hw1:w.alloc (.cells #[.int .u64 s.n,.int .u64 0,.int .u64 0,.int .i64 m,.bool false,.bool false] 265)=w1 at *
 have d2:=Qq h1.blk 2
 simp at d2
 have b0:=Qq hbox 0
 have b1:=Qq hbox 1
 have b2:=Qq hbox 2
 have b3:=Qq hbox 3
 have b4:=Qq hbox 4
 have b5:=Qq hbox 5
 simp at b0 b1 b2 b3 b4 b5
 have hng:=h1.not_seg
 refine Ql (fun w'=>Keep (fun b=>(Value.slice so L.segs.length sc).ownBlock=some b) w1 w') [0,1,2,3,4,5] [6,7] [8,9,10] (by kernel_rfl) (by kernel_rfl) (fun _ _ _ _ _ h=>h) (Keep.refl _ _).drew ?_
 iterate 6 (refine Qk (v:=?_) rfl rfl rfl ?_ ?_;rotate_left;focus (
  intro w' hq
  have d2':=hq.cell d2 hng
  have b0':=hq.cell b0 hnb
  have b1':=hq.cell b1 hnb
  have b2':=hq.cell b2 hnb
  have b3':=hq.cell b3 hnb
  have b4':=hq.cell b4 hnb
  have b5':=hq.cell b5 hnb
  go_simp
  try with_reducible rfl))
 refine Qj ?_
 have kd:Keep No w1 (w1.alloc (.cells #[.int .u64 s.n,.int .u64 0,.int .u64 0,.int .i64 m,.bool false,.bool false] 265)).drew:=((Keep.refl _ _).alloc _).drew
 have hb2:=Qy w1 (.cells #[.int .u64 s.n,.int .u64 0,.int .u64 0,.int .i64 m,.bool false,.bool false] 265)
 refine Qx rfl rfl (fun K hK=>?_)
 go_simp
 refine hK _ _ kd.no ?_
 clear hK K
 have hL2:=h1.no kd
 refine Qx rfl rfl (fun K hK=>?_)
 refine wp_append_lseg (c:=sv1) _ _ rfl hL2.segs rfl (B:=w1.heap.size) (by rw [HB.out.2.1];exact hb2) rfl (by have:=HB.out.2.2.1;omega) (Nat.le_trans HB.out.1 (HB.out.2.2.2.then kd).size) ?_
 intro v6 w6 hs6 k6 own6
 have kS:Keep (fun b=>(Value.slice so L.segs.length sc).ownBlock=some b) w1 w6:=kd.no.trans k6 (fun _ _ e=>e)
 refine hK _ _ kS ?_
 clear hK K
 refine Qh (Qu rfl (Qu rfl (Qu rfl (Qm ?_))))
 obtain ⟨hb6,hr6⟩:=hL2.pushedSeg k6 hs6
 obtain ⟨a6,c6,rfl,_,_⟩:=hs6.form
 have gb:=hL2.gb
 have hsz:=(HB.out.2.2.2.then kd).size
 generalize (L.segs++[sv1]).length=x6 at *
 have f2:=Qg hb6 2
 have e2:=Qq hb6 2
 simp at e2
 obtain ⟨hb7,hs7,hr7,k7⟩:=Ut hb6 gb hs6 hr6 2 (.slice a6 x6 c6) rfl
 have hfin:Zd base (w6.setCell ⟨g,2,none⟩ (.slice a6 x6 c6)) g p (.slice a6 x6 c6) lv { L with segs:=L.segs++[sv1] }:=⟨hb7,hs7,hr7,gb⟩
 have hk:=((HB.out.2.2.2.no (F:=Yg g (.slice so L.segs.length sc) lv)).trans (kS.mono (G:=Yg g (.slice so L.segs.length sc) lv) (fun _ _ e=>.inr (.inl e))) (fun _ _ e=>e)).trans k7 (fun _ _ e=>.inl e)
 have HF:=Lib.hid (A4 hfin hk own6 hsz)
 clear hfin hk own6 hsz hb7 hs7 hr7 k7 hb6 hs6 hr6 kS k6 hL2 hb2 kd h1 hbox d2 b0 b1 b2 b3 b4 b5
 go_wp2
 go_ret
 refine ⟨rfl,.slice a6 x6 c6,lv,HF.out.1,HF.out.2.1,fun b hb=>?_⟩
 rcases hb with hb | hb | hb
 ·exact .inl (.inl hb)
 ·rcases HF.out.2.2.1 b hb with h | h
  ·exact .inl (.inr (.inl h))
  ·exact .inr (Nat.le_trans HF.out.2.2.2 h)
 ·exact .inl (.inr (.inr hb))
theorem openM_head (n:Nat):Rf (Xt n)=(layB n 8,0):=by
 have hl:=Zr n
 unfold Rf
 rw [if_neg (by omega),hl]
 have e:(Xt n).take (12 - 4)=layB n 8:=by
  unfold Xt Ye
  rw [List.take_append_of_le_length (by simp [Zu]),List.take_of_length_le (by simp [Zu])]
 rw [e,if_pos (by simp [Xt])]
theorem box_foot {base:Nat} {w:World} {B:Nat} {cs:Array Value} (h:w.heap[B]?=some (.cells cs 265 (0,0))) (hb:base<=B):Foot base w (·=B):=by
 rintro b rfl
 exact ⟨hb,Qt h,fun cs fr e=>by rw [h] at e;simp at e⟩
theorem lread_head [bn:Inhabited Ban] {base:Nat} {w:World} {g p:Nat} {sv lv pv:Value} {L:LogS} {s:SegL} (h:Zd base w g p sv lv L) (hb:base<=w.heap.size) (hT:ban.top<=w.heap.size) (hp:Qv base w pv s.bytes) (ho:s.Ok) (hd:s.headed=true)
  (hnx:L.next=0\/s.first=L.next) (hl:L.segs.length<=1000000) (hrl:L.recs.length+s.recs.length<=1000000) (hz:s.bytes.length<=1099511627776) :
  Calls Tryz.prog 102 #[.pointer (some ⟨g,0,none⟩),.int .u64 s.n,pv] w (SegPost base w g p sv lv (L.add s)):=by
 obtain ⟨hf1,hf2,hr,ht⟩:=ho.head hd
 have hby:s.bytes=Xt s.first++(Xx s.recs++s.tail):=by unfold SegL.bytes;rw [hd];rfl
 have hvw:s.view={ n:=s.n,first:=s.first,count:=s.recs.length,size:=s.bytes.length,whole:=s.tail.isEmpty,headed:=true }:=by unfold SegL.view;rw [hd];simp
 have hadd:L.add s={ L with segs:=L.segs++[s.view],recs:=L.recs++s.recs,next:=s.first+s.recs.length }:=by unfold LogS.add;rw [hd];rfl
 rw [hadd]
 obtain ⟨sv1,hsv1⟩:∃ c,c=s.view:=⟨_,rfl⟩
 rw [<- hsv1] at hvw ⊢
 obtain ⟨wh,hwh⟩:∃ wh,(((s.tail.length:Nat):Int)==0)=wh:=⟨_,rfl⟩
 have hcell:Yy sv1=[.int .u64 s.n,.int .u64 s.first,.int .u64 s.recs.length,.int .i64 s.bytes.length,.bool wh,.bool true]:=by
  rw [hvw,<- hwh]
  have:s.tail.isEmpty=(((s.tail.length:Nat):Int)==0):=by
   cases s.tail with
   | nil=>rfl
   | cons x t=>simp;omega
  simp only [Yy,this]
 have hp0:=hp
 obtain ⟨po,pc,rfl⟩:=hp.form
 have hpc:s.bytes.length<=pc:=by obtain ⟨_,_,hq,h1,h2,_⟩:=hp0;simp at hq;omega
 have h12:12<=s.bytes.length:=by rw [hby,List.length_append,Zr];omega
 have bh:=hp0.take 12 h12
 have eh:s.bytes.take 12=Xt s.first:=by rw [hby,List.take_append_of_le_length (by rw [Zr];exact Nat.le_refl _),List.take_of_length_le (by rw [Zr];exact Nat.le_refl _)]
 rw [eh] at bh
 obtain ⟨o1,c1,run1,sub1⟩:=Rg po s.bytes.length pc 12 12 rfl h12 hpc
 have br:=sub1 _ _ _ hp0
 have er:(s.bytes.take s.bytes.length).drop 12=Xx s.recs++s.tail:=by rw [List.take_of_length_le (Nat.le_refl _),hby,List.drop_left' (Zr _)]
 rw [er] at br
 have hlr:(Xx s.recs++s.tail).length<=1099511627776:=by rw [hby,List.length_append] at hz;omega
 have hlr2:s.bytes.length - 12=(Xx s.recs++s.tail).length:=by rw [hby,List.length_append,Zr];omega
 rw [hlr2] at br run1
 have kA:Keep No w (w.alloc (.cells #[.int .u64 s.n,.int .u64 0,.int .u64 0,.int .i64 s.bytes.length,.bool false,.bool false] 265)):=(Keep.refl _ _).alloc _
 have hbox:=Qy w (.cells #[.int .u64 s.n,.int .u64 0,.int .u64 0,.int .i64 s.bytes.length,.bool false,.bool false] 265)
 have h1:=h.no kA
 have hnB:∀ b,Yg g sv lv b->b≠w.heap.size:=fun b hb e=>by have:=h.lt b hb;omega
 have hop:=fun (w':World) (k:Keep No w w')=>mOpen_spec (bh.no k) (Nat.le_trans hT k.size) (by rw [Zr];omega)
 rw [openM_head] at hop
 have hm12:¬((s.bytes.length:Int)<12):=by omega
 have hpci:(12:Int)<=(pc:Int):=by omega
 have HB:=Lib.hid (A11 hb hcell hl kA hT hrl hr ht br hlr hnB)
 have HF:=Lib.hid (A2 hf1 hf2)
 clear hvw hsv1 hadd hby hr ht hp ho hd h hb hcell hl kA hp0 h12 bh eh er hlr hlr2 hrl hz hT br hpc sub1 hnB
 generalize s.bytes.length=m at *
 generalize hml:(Xx s.recs++s.tail).length=ml at *
 have HML:=Lib.hid hml
 clear hml
 go_enter Tryz.func102,Tryz.ntmps102
 go_upto_region 5 with fail
 generalize hw1:w.alloc (.cells #[.int .u64 s.n,.int .u64 0,.int .u64 0,.int .i64 m,.bool false,.bool false] 265)=w1 at *
 have hop1:=hop w1 HB.out.2.2.2.1
 clear hop
 go_upto_region 8 with (go_at_call 153;refine hop1.mono ?_;rintro e w2 ⟨v2,rfl,own2,k2⟩)
 have hl8:(layB s.first 8).length=8:=Zu _ _
 have own2:OwnB w2 w1.heap.size v2 (layB s.first 8):=own2
 obtain ⟨o2,c2,rfl⟩:=own2.form
 have hv2:=own2.bytes (base:=base) (fun _=>Nat.le_trans HB.out.2.2.2.2.1 HB.out.2.2.2.1.size)
 rw [hl8] at hv2 ⊢
 have tk2:=take_spec hv2 (by rw [hl8];decide)
 rw [Uf,Nat.mod_eq_of_lt (by have:=HF.out.2;omega)] at tk2
 have hbox2:=k2.heap hbox (fun e=>e)
 have h2:=h1.no k2
 have e1:=Qq hbox2 1
 have f1:=Qg hbox2 1
 have e5:=Qq hbox2 5
 have f5:=Qg hbox2 5
 simp at e1 e5
 have hk2:=HB.out.2.2.2.1.then k2
 clear hop1 own2 hv2 hl8 h1 hbox
 go_upto_region 9 with (go_at_call 154;refine tk2.mono ?_;rintro e w3 ⟨rfl,rfl⟩)
 have hbox4:=Qz (i:=5) (u:=.bool true) (Qz (i:=1) (u:=.int .u64 s.first) hbox2)
 have hBF:=box_foot hbox2 HB.out.1
 have k4:Keep (·=w.heap.size) w3 ((w3.setCell ⟨w.heap.size,1,none⟩ (.int .u64 s.first)).setCell ⟨w.heap.size,5,none⟩ (.bool true)) :=
  Keep.setCell (F:=(·=w.heap.size)) (Keep.setCell (F:=(·=w.heap.size)) (Keep.refl _ _) (p:=⟨w.heap.size,1,none⟩) (.inl rfl) _) (p:=⟨w.heap.size,5,none⟩) (.inl rfl) _
 have h4:=h2.keep hBF k4 HB.out.2.2.2.2.2.2.2.2.2.2
 have br4:=(HB.out.2.2.2.2.2.2.2.2.1.no hk2).keep hBF k4
 have hk4:Keep No w ((w3.setCell ⟨w.heap.size,1,none⟩ (.int .u64 s.first)).setCell ⟨w.heap.size,5,none⟩ (.bool true)):=hk2.absorb k4 (fun b e=>by rw [e];exact Nat.le_refl _)
 generalize ((w3.setCell ⟨w.heap.size,1,none⟩ (.int .u64 s.first)).setCell ⟨w.heap.size,5,none⟩ (.bool true))=w4 at *
 have H4:=Lib.hid (A4 hbox4 h4 br4 hk4)
 have d4:=Qq h4.blk 4
 have b1:=Qq hbox4 1
 simp at d4 b1
 clear hbox4 hBF k4 h4 br4 hk4 hk2 h2 hbox2 e1 f1 e5 f5 tk2
 go_cut [63] (fun v wx=>v=.bool false/\Keep No w4 wx)
 case first =>
  have hfa:decide ((s.first:Int)<1)=false:=decide_eq_false (by have:=HF.out.1;omega)
  have hfb:decide ((4611686018427387904:Int)<=(s.first:Int))=false:=decide_eq_false (by have:=HF.out.2;omega)
  have hfc:decide (0<s.first)=true:=decide_eq_true (by have:=HF.out.1;omega)
  rcases hnx with h0 | h0
  ·rw [h0] at d4
   refine Ql (fun w'=>Keep No w4 w') [0,1,2,3,4,5,6,7,8,9,10,11,12,13,14,15,16,17,18,19,20,21,22,23] [] [] (by kernel_rfl) (by kernel_rfl) (fun _ _ _ _ _ h=>h) (Keep.refl _ _).drew ?_
   iterate 4 (refine Qk (v:=?_) rfl rfl rfl ?_ ?_;rotate_left;focus (
    intro w' hq
    have d4':=hq.cell d4 (fun e=>e)
    have b1':=hq.cell b1 (fun e=>e)
    go_simp
    try with_reducible rfl))
   iterate 3 (refine Qe (v:=?_) rfl rfl (by first | kernel_rfl | simp [Region.wanted,yielded,Act.put,undef]) ?_ ?_;rotate_left;focus (
    intro w' hq
    have d4':=hq.cell d4 (fun e=>e)
    have b1':=hq.cell b1 (fun e=>e)
    go_simp
    try with_reducible rfl))
   iterate 2 (refine Qk (v:=?_) rfl rfl rfl ?_ ?_;rotate_left;focus (
    intro w' hq
    go_simp
    try with_reducible rfl))
   iterate 6 (refine Qe (v:=?_) rfl rfl (by first | kernel_rfl | simp [Region.wanted,yielded,Act.put,undef]) ?_ ?_;rotate_left;focus (
    intro w' hq
    have d4':=hq.cell d4 (fun e=>e)
    have b1':=hq.cell b1 (fun e=>e)
    go_simp
    try with_reducible rfl))
   iterate 7 (refine Sh rfl rfl (by first | kernel_rfl | simp [Region.wanted,yielded,Act.put,undef]) ?_)
   iterate 1 (refine Qe (v:=?_) rfl rfl (by first | kernel_rfl | simp [Region.wanted,yielded,Act.put,undef]) ?_ ?_;rotate_left;focus (
    intro w' hq
    go_simp
    try with_reducible rfl))
   iterate 1 (refine Qk (v:=?_) rfl rfl rfl ?_ ?_;rotate_left;focus (
    intro w' hq
    go_simp
    try with_reducible rfl))
   refine Qj ?_
   refine Qh (Qm ?_)
   go_simp
   go_wp2
   go_meet
   exact ⟨rfl,(Keep.refl _ _).drew⟩
  ·rw [<- h0] at d4
   clear h0
   refine Ql (fun w'=>Keep No w4 w') [0,1,2,3,4,5,6,7,8,9,10,11,12,13,14,15,16,17,18,19,20,21,22,23] [] [] (by kernel_rfl) (by kernel_rfl) (fun _ _ _ _ _ h=>h) (Keep.refl _ _).drew ?_
   iterate 4 (refine Qk (v:=?_) rfl rfl rfl ?_ ?_;rotate_left;focus (
    intro w' hq
    have d4':=hq.cell d4 (fun e=>e)
    have b1':=hq.cell b1 (fun e=>e)
    go_simp
    try with_reducible rfl))
   iterate 3 (refine Qe (v:=?_) rfl rfl (by first | kernel_rfl | simp [Region.wanted,yielded,Act.put,undef]) ?_ ?_;rotate_left;focus (
    intro w' hq
    have d4':=hq.cell d4 (fun e=>e)
    have b1':=hq.cell b1 (fun e=>e)
    go_simp
    try with_reducible rfl))
   iterate 2 (refine Qk (v:=?_) rfl rfl rfl ?_ ?_;rotate_left;focus (
    intro w' hq
    go_simp
    try with_reducible rfl))
   iterate 13 (refine Qe (v:=?_) rfl rfl (by first | kernel_rfl | simp [Region.wanted,yielded,Act.put,undef]) ?_ ?_;rotate_left;focus (
    intro w' hq
    have d4':=hq.cell d4 (fun e=>e)
    have b1':=hq.cell b1 (fun e=>e)
    go_simp
    try with_reducible rfl))
   iterate 1 (refine Qe (v:=?_) rfl rfl (by first | kernel_rfl | simp [Region.wanted,yielded,Act.put,undef]) ?_ ?_;rotate_left;focus (
    intro w' hq
    go_simp
    try with_reducible rfl))
   iterate 1 (refine Qk (v:=?_) rfl rfl rfl ?_ ?_;rotate_left;focus (
    intro w' hq
    go_simp
    try with_reducible rfl))
   refine Qj ?_
   refine Qh (Qm ?_)
   go_simp
   go_wp2
   go_meet
   exact ⟨rfl,(Keep.refl _ _).drew⟩
 case rest =>
  obtain ⟨rfl,k5⟩:=hcut
  generalize wc=w5 at *
  have hbox5:=k5.heap H4.out.1 (fun e=>e)
  have h5:=H4.out.2.1.no k5
  have br5:=H4.out.2.2.1.no k5
  have hk5:=H4.out.2.2.2.then k5
  have b1:=Qq hbox5 1
  have d4:=Qq h5.blk 4
  have f4:=Qg h5.blk 4
  simp at b1 d4
  obtain ⟨hb6,hs6,hr6,k6⟩:=Ut h5.blk h5.gb h5.segs h5.recs 4 (.int .u64 s.first) rfl
  have h6:Zd base (w5.setCell ⟨g,4,none⟩ (.int .u64 s.first)) g p sv lv { L with next:=s.first }:=⟨hb6,hs6,hr6,h5.gb⟩
  have hk6l:Keep (Yg g sv lv) w5 (w5.setCell ⟨g,4,none⟩ (.int .u64 s.first)):=k6.mono (fun _ _ e=>.inl e)
  have br6:=br5.keep h5.foot hk6l
  have hbox6:=hk6l.heap hbox5 (fun e=>HB.out.2.2.2.2.2.2.2.2.2.2 _ e rfl)
  have hk6:=(hk5.no (F:=Yg g sv lv)).trans hk6l (fun _ _ e=>e)
  have H6:=Lib.hid (A4 h6 br6 hbox6 hk6)
  clear h6 br6 hbox6 hk6 hk6l k6 hb6 hs6 hr6 hk5 br5 h5 hbox5 k5 H4
  go_upto_region 12 with fail
  generalize w5.setCell ⟨g,4,none⟩ (.int .u64 s.first)=w6 at *
  clear d4 f4 b1
  have hrec:=lrecords_spec H6.out.1 (Nat.le_trans HB.out.1 H6.out.2.2.2.size) (Nat.le_trans HB.out.2.2.2.2.1 H6.out.2.2.2.size) H6.out.2.1 HB.out.2.2.2.2.2.2.1 HB.out.2.2.2.2.2.2.2.1 (by have:=HF.out.2;have:=HB.out.2.2.2.2.2.1;show s.first+s.recs.length<=_;omega) (by have:=HB.out.2.2.2.2.2.1;show L.recs.length+s.recs.length<=_;omega) (by rw [HML.out];exact HB.out.2.2.2.2.2.2.2.2.2.1)
  go_upto_region 15 with (go_at_call 155;refine hrec.mono ?_;rintro e w7 ⟨v7,lv7,rfl,bt7,h7,k7,own7⟩;obtain ⟨o7,c7,rfl⟩:=bt7.form)
  have hbox7:=k7.heap H6.out.2.2.1 (fun e=>HB.out.2.2.2.2.2.2.2.2.2.2 _ e rfl)
  have hk7:=H6.out.2.2.2.trans k7 (fun _ _ e=>e)
  have hnw:IntKind.u64.wrap (((s.first+s.recs.length:Nat):Int) - (s.first:Int))=(s.recs.length:Int):=by have:=HF.out.2;have:=HB.out.2.2.2.2.2.1;rw [wraps_u64 _ (by omega) (by omega)];omega
  have d4:=Qq h7.blk 4
  simp only [List.getElem?_toArray] at d4
  have d4:w7.cell? ⟨g,4,none⟩=some (.int .u64 (s.first+s.recs.length:Nat)):=d4
  generalize s.first+s.recs.length=x7 at *
  have b1:=Qq hbox7 1
  have b4:=Qq hbox7 4
  simp at b1 b4
  have kd:Keep No w7 w7.drew:=(Keep.refl _ _).drew
  have hbd:=kd.heap hbox7 (fun e=>e)
  have e2:=Qq hbd 2
  have f2:=Qg hbd 2
  simp at e2
  have HX:=Lib.hid (A3 h7 own7 hk7)
  have hng:¬g=w.heap.size:=fun e=>HB.out.2.2.2.2.2.2.2.2.2.2 g (.inl rfl) e
  clear h7 own7 hk7 bt7 k7 hrec
  refine Ql (fun w'=>Keep (·=w.heap.size) w7 w'/\w'.cell? ⟨w.heap.size,1,none⟩=some (.int .u64 s.first)) [0,1,2,3,4,5,7,8,9] [6,10,11] [12,13] (by kernel_rfl) (by kernel_rfl) (fun _ _ _ _ _ h=>h) ⟨kd.no,kd.cell b1 (fun e=>e)⟩ ?_
  iterate 6 (refine Qk (v:=?_) rfl rfl rfl ?_ ?_;rotate_left;focus (
   intro w' hq
   have d4':=hq.1.cell d4 hng
   have b1':=hq.2
   go_simp
   try with_reducible rfl))
  iterate 3 (refine Qk (v:=?_) rfl rfl rfl ?_ ?_;rotate_left;focus (
   intro w' hq
   go_simp
   try with_reducible rfl))
  refine Qj ?_
  refine Qx rfl rfl (fun K hK=>?_)
  go_simp
  refine hK _ _ ⟨kd.no,kd.cell b1 (fun e=>e)⟩ ?_
  clear hK K
  refine Qx rfl rfl (fun K hK=>?_)
  go_simp
  refine hK _ _ ⟨kd.no,kd.cell b1 (fun e=>e)⟩ ?_
  clear hK K
  refine Qx rfl rfl (fun K hK=>?_)
  go_simp
  have hbe:=Qz (i:=2) (u:=.int .u64 s.recs.length) hbox7
  have k8:Keep (·=w.heap.size) w7 (w7.setCell ⟨w.heap.size,2,none⟩ (.int .u64 s.recs.length)).drew:=(Keep.setCell (F:=(·=w.heap.size)) (Keep.refl _ _) (p:=⟨w.heap.size,2,none⟩) (.inl rfl) _).drew
  have b1e:=Qq hbe 1
  simp at b1e
  refine hK _ _ ⟨k8,b1e⟩ ?_
  clear hK K
  refine Qh (Qu rfl (Qu rfl (Qm ?_)))
  have hbf:=Qz (i:=4) (u:=.bool wh) hbe
  have k9:Keep (·=w.heap.size) w7 ((w7.setCell ⟨w.heap.size,2,none⟩ (.int .u64 s.recs.length)).setCell ⟨w.heap.size,4,none⟩ (.bool wh)) :=
   Keep.setCell (F:=(·=w.heap.size)) (Keep.setCell (F:=(·=w.heap.size)) (Keep.refl _ _) (p:=⟨w.heap.size,2,none⟩) (.inl rfl) _) (p:=⟨w.heap.size,4,none⟩) (.inl rfl) _
  have b4e:=Qq hbe 4
  have f4e:=Qg hbe 4
  simp at b4e
  have H9:=Lib.hid (A2 hbf k9)
  clear hbf k9 k8 b1e hbd e2 f2 kd b1 b4 d4
  go_upto_region 16 with fail
  have hbox9:((w7.setCell ⟨w.heap.size,2,none⟩ (.int .u64 s.recs.length)).setCell ⟨w.heap.size,4,none⟩ (.bool wh)).heap[w.heap.size]?=some (.cells #[.int .u64 s.n,.int .u64 s.first,.int .u64 s.recs.length,.int .i64 m,.bool wh,.bool true] 265 (0,0)):=by
   have:=H9.out.1
   simpa using this
  have k9:=H9.out.2
  clear b4e f4e hbe
  generalize (w7.setCell ⟨w.heap.size,2,none⟩ (.int .u64 s.recs.length)).setCell ⟨w.heap.size,4,none⟩ (.bool wh)=w9 at *
  have kdr:Keep No w9 w9.drew:=(Keep.refl _ _).drew
  have hbox10:=kdr.heap hbox9 (fun e=>e)
  have hB7:base<=w.heap.size:=HB.out.1
  have hF7:=box_foot hbox7 hB7
  have hB10:=k9.then kdr
  have h10:=HX.out.1.keep hF7 hB10 (fun b hb e=>by
   rcases hb with hb | hb | hb
   ·exact hng (hb.symm.trans e)
   ·exact HB.out.2.2.2.2.2.2.2.2.2.2 b (.inr (.inl hb)) e
   ·rcases HX.out.2.1 b hb with h | h
    ·exact HB.out.2.2.2.2.2.2.2.2.2.2 b (.inr (.inr h)) e
    ·have:=H6.out.2.2.1
     have:=Qt this
     omega)
  have hk10:=HX.out.2.2.trans hB10 (fun x hx e=>by omega)
  have hnb:¬sv.ownBlock=some w.heap.size:=fun e=>HB.out.2.2.2.2.2.2.2.2.2.2 _ (.inr (.inl e)) rfl
  have hl:=HB.out.2.2.1
  have hcell:=HB.out.2.1
  have own7:=HX.out.2.1
  have hw6:=H6.out.2.2.2.size
  obtain ⟨so,sc,rfl,_,_⟩:=h10.segs.form
  have HY:=Lib.hid (A5 own7 hw6 hk10 hl hcell)
  clear own7 hw6 hk10 hl hcell hF7 hB7 HX H6 H9 k9 kdr hbox9 hbox7 hB10 hnw HML run1 hm12 hpci hwh hnx
  generalize w9.drew=w10 at *
  have d2:=Qq h10.blk 2
  simp at d2
  have b0:=Qq hbox10 0
  have b1:=Qq hbox10 1
  have b2:=Qq hbox10 2
  have b3:=Qq hbox10 3
  have b4:=Qq hbox10 4
  have b5:=Qq hbox10 5
  simp at b0 b1 b2 b3 b4 b5
  have hng:=h10.not_seg
  refine Ql (fun w'=>Keep (fun b=>(Value.slice so L.segs.length sc).ownBlock=some b) w10 w') [0,1,2,3,4,5] [6,7] [8,9,10] (by kernel_rfl) (by kernel_rfl) (fun _ _ _ _ _ h=>h) (Keep.refl _ _).drew ?_
  iterate 6 (refine Qk (v:=?_) rfl rfl rfl ?_ ?_;rotate_left;focus (
   intro w' hq
   have d2':=hq.cell d2 hng
   have b0':=hq.cell b0 hnb
   have b1':=hq.cell b1 hnb
   have b2':=hq.cell b2 hnb
   have b3':=hq.cell b3 hnb
   have b4':=hq.cell b4 hnb
   have b5':=hq.cell b5 hnb
   go_simp
   try with_reducible rfl))
  refine Qj ?_
  have kd:Keep No w10 (w10.alloc (.cells #[.int .u64 s.n,.int .u64 s.first,.int .u64 s.recs.length,.int .i64 m,.bool wh,.bool true] 265)).drew:=((Keep.refl _ _).alloc _).drew
  have hb2:=Qy w10 (.cells #[.int .u64 s.n,.int .u64 s.first,.int .u64 s.recs.length,.int .i64 m,.bool wh,.bool true] 265)
  refine Qx rfl rfl (fun K hK=>?_)
  go_simp
  refine hK _ _ kd.no ?_
  clear hK K
  have hL2:=h10.no kd
  refine Qx rfl rfl (fun K hK=>?_)
  refine wp_append_lseg (c:=sv1) _ _ rfl hL2.segs rfl (B:=w10.heap.size) (by rw [HY.out.2.2.2.2];exact hb2) rfl (by show L.segs.length<=_;have:=HY.out.2.2.2.1;omega) (Nat.le_trans HB.out.1 (HY.out.2.2.1.then kd).size) ?_
  intro v6 w11 hs6 k6 own6
  have kS:Keep (fun b=>(Value.slice so L.segs.length sc).ownBlock=some b) w10 w11:=kd.no.trans k6 (fun _ _ e=>e)
  refine hK _ _ kS ?_
  clear hK K
  refine Qh (Qu rfl (Qu rfl (Qu rfl (Qm ?_))))
  obtain ⟨hb6,hr6⟩:=hL2.pushedSeg k6 hs6
  obtain ⟨a6,c6,rfl,_,_⟩:=hs6.form
  have gb:=hL2.gb
  have hsz:=(HY.out.2.2.1.then kd).size
  generalize (L.segs++[sv1]).length=x6 at *
  have f2:=Qg hb6 2
  have e2:=Qq hb6 2
  simp at e2
  obtain ⟨hb7,hs7,hr7,k7⟩:=Ut hb6 gb hs6 hr6 2 (.slice a6 x6 c6) rfl
  have hfin:Zd base (w11.setCell ⟨g,2,none⟩ (.slice a6 x6 c6)) g p (.slice a6 x6 c6) lv7 { L with segs:=L.segs++[sv1],recs:=L.recs++s.recs,next:=x7 }:=⟨hb7,hs7,hr7,gb⟩
  have hk:=(HY.out.2.2.1.trans (kS.mono (G:=Yg g (.slice so L.segs.length sc) lv) (fun _ _ e=>.inr (.inl e))) (fun _ _ e=>e)).trans k7 (fun _ _ e=>.inl e)
  have HF2:=Lib.hid (A4 hfin hk own6 hsz)
  clear hfin hk own6 hsz hb7 hs7 hr7 k7 hb6 hs6 hr6 kS k6 hL2 hb2 kd h10 hbox10 d2 b0 b1 b2 b3 b4 b5
  go_wp2
  go_ret
  refine ⟨rfl,.slice a6 x6 c6,lv7,HF2.out.1,HF2.out.2.1,fun b hb=>?_⟩
  rcases hb with hb | hb | hb
  ·exact .inl (.inl hb)
  ·rcases HF2.out.2.2.1 b hb with h | h
   ·exact .inl (.inr (.inl h))
   ·exact .inr (Nat.le_trans HF2.out.2.2.2 h)
  ·rcases HY.out.1 b hb with h | h
   ·exact .inl (.inr (.inr h))
   ·exact .inr (Nat.le_trans HY.out.2.1 h)
def Zz (x:Nat) (ss:List SegL):Nat:=ss.foldl (fun x s=>if s.headed then s.first+s.recs.length else x) x
def Qw (ss:List SegL):List Qs:=(ss.map (·.recs)).flatten
def Kv (size:Int) (ss:List SegL):LogS:={ size:=size,segs:=ss.map SegL.view,recs:=Qw ss,next:=Zz 0 ss }
theorem Xp (a b:List SegL):Qw (a++b)=Qw a++Qw b:=by simp [Qw]
theorem Ky (x:Nat) (a b:List SegL):Zz x (a++b)=Zz (Zz x a) b:=by simp [Zz]
theorem logOf_add (size:Int) (ss:List SegL) (s:SegL):(Kv size ss).add s=Kv size (ss++[s]):=by
 unfold Kv LogS.add
 rw [Xp,Ky]
 simp [Qw,Zz]
structure DiskL (d:Qr) (ss:List SegL):Prop where
 keys:Yk d.now=ss.map (·.n)
 bytes:∀ s∈ss,mget d.now s.n=some s.bytes
 ok:∀ s∈ss,s.Ok
 chain:∀ (i:Nat) s,ss[i]?=some s->s.headed=true->Zz 0 (ss.take i)=0\/s.first=Zz 0 (ss.take i)
 few:ss.length<=10000
 recs:(Qw ss).length<=1000000
 sum:msum d.now<=1099511627776
def OpenR [bn:Inhabited Ban] (base:Nat) (w:World) (g p n s:Nat) (wv kv:Value) (size:Int) (d:Qr) (ss:List SegL) (j:Nat) (wr:World):Prop :=
 ∃ sv lv,Zd base wr g p sv lv (Kv size (ss.take j))/\Keep No w wr/\(∀ b,Yg g sv lv b->w.heap.size<=b)/\Kh wr kv (ss.map (·.n))/\Qo base wr p n s wv d
theorem Zd.nums [bn:Inhabited Ban] {base:Nat} {w w':World} {g p:Nat} {sv lv v:Value} {L:LogS} {l:List Int} (h:Zd base w g p sv lv L) (hn:Kh w v l) (k:Keep (Yg g sv lv) w w'):Kh w' v l:=by
 obtain ⟨ao,cap,rfl,h1,h2,h3⟩:=hn
 refine ⟨ao,cap,rfl,h1,h2,?_⟩
 rcases h3 with h3 | ⟨r,rfl,h3⟩
 ·exact .inl h3
 ·refine .inr ⟨r,rfl,h3.keep k (fun hf=>?_)⟩
  obtain ⟨cs,hz,_⟩:=h3
  obtain ⟨_,cs',t,hz',ht⟩:=h.kind hf
  rw [hz] at hz';simp at hz';obtain ⟨_,rfl⟩:=hz';rcases ht with ht | ht | ht <;> simp at ht
def NewLog [bn:Inhabited Ban] (base:Nat) (w:World) (p n s:Nat) (wv:Value) (d:Qr) (L:LogS) (e:Ending) (w':World):Prop :=
 ∃ g sv lv,e=.returned (.tuple #[.pointer (some ⟨g,0,none⟩),.int .i64 0])/\Zd base w' g p sv lv L/\Qo base w' p n s wv d/\Keep No w w'/\∀ b,Yg g sv lv b->w.heap.size<=b
theorem lOpen_spec [bn:Inhabited Ban] {base:Nat} {w:World} {p n s:Nat} {wv:Value} {d:Qr} {ss:List SegL} (h:Qo base w p n s wv d) (hb:base<=w.heap.size) (hT:ban.top<=w.heap.size) (hd:DiskL d ss) {size:Int} (hz:1<=size) :
  Calls Tryz.prog 54 #[.pointer (some ⟨p,0,none⟩),.int .i64 size] w (NewLog base w p n s wv d { Kv size ss with next:=max (Zz 0 ss) 1 }):=by
 have hz1:¬(size<1):=by omega
 have kA:Keep No w (w.alloc (.cells #[.pointer (some ⟨p,0,none⟩),.int .i64 size,.slice none 0 0,.slice none 0 0,.int .u64 0] 130)):=(Keep.refl _ _).alloc _
 have hlog:Zd base (w.alloc (.cells #[.pointer (some ⟨p,0,none⟩),.int .i64 size,.slice none 0 0,.slice none 0 0,.int .u64 0] 130)) w.heap.size p (.slice none 0 0) (.slice none 0 0) (Kv size []) :=
  ⟨Qy w _,World.ownsRow_nil _ _ _ _,Vi.nil _ _,hb⟩
 have h1:=h.no kA
 have hsg:=dsegs_spec h1 (by have:=hd.few;have:=congrArg List.length hd.keys;rw [sortedKeys_length,List.length_map] at this;omega)
 rw [hd.keys] at hsg
 have HH:=Lib.hid (A6 h1 hlog kA hb hT hd)
 clear h h1 hlog kA hb hT hd hz
 go_enter Tryz.func54,Tryz.ntmps54
 go_upto_block 1 with (go_at_call 83;refine hsg.mono ?_;rintro e w1 ⟨kv,rfl,hN,k1⟩;obtain ⟨ko,kc,rfl,hkl,hkm⟩:=hN.form)
 have hO:OpenR base w w.heap.size p n s wv (.slice ko (ss.map (·.n)).length kc) size d ss 0 w1 :=
  ⟨.slice none 0 0,.slice none 0 0,HH.out.2.1.no k1,HH.out.2.2.1.then k1,fun b hb=>by rcases hb with rfl | hb | hb;exact Nat.le_refl _;simp [Value.ownBlock] at hb;simp [Value.ownBlock] at hb,hN,HH.out.1.no k1⟩
 have hlen:(ss.map (fun s:SegL=>s.n)).length=ss.length:=List.length_map _
 rw [hlen] at hO
 clear hN hkl hkm hlen hsg k1
 go_cut [] (fun wx=>OpenR base w w.heap.size p n s wv (.slice ko ss.length kc) size d ss ss.length wx)
 case first =>
  go_wp2_with fail
  have hfew:(ss.length:Int)<=10000:=by have:=HH.out.2.2.2.2.2.few;omega
  go_loopw [25] (fun i wr=>∃ j:Nat,j<=ss.length/\i=.int .i64 j/\OpenR base w w.heap.size p n s wv (.slice ko ss.length kc) size d ss j wr) (fun i _=>ss.length - (intOf i).toNat)
  case atStart=>exact ⟨0,Nat.zero_le _,rfl,hO⟩
  case round =>
   clear hO
   obtain ⟨j,hj,rfl,sv,lv,hL,hK,hG,hN,hD⟩:=hrel
   by_cases hlt:j<ss.length
   ·have hsj:ss[j]?=some ss[j]:=List.getElem?_eq_getElem hlt
    have hmem:=List.getElem_mem hlt
    have htk:ss.take (j+1)=ss.take j++[ss[j]]:=by rw [List.take_add_one,hsj];rfl
    generalize ss[j]=sg at *
    have hkj:(ss.map (fun s:SegL=>s.n))[j]?=some sg.n:=by simp [hsj]
    have hji:(j:Int)<(ss.length:Int):=by omega
    obtain ⟨r,rfl,hcell⟩:=hN.cell hkj
    have hdl:=HH.out.2.2.2.2.2
    have hrd:=read_spec hD hdl.sum sg.n
    have hread:d.read sg.n=(sg.bytes,0):=by unfold Qr.read;rw [hdl.bytes sg hmem]
    rw [hread] at hrd
    have hbl:sg.bytes.length<=1099511627776:=by have h1:=Hb d.now sg.n;have h2:=hdl.sum;rw [hdl.bytes sg hmem] at h1;simp at h1;omega
    have hrl:(Qw (ss.take j)).length+sg.recs.length<=1000000:=by
     have h1:=hdl.recs
     have h2:Qw ss=Qw (ss.take j)++(sg.recs++Qw (ss.drop (j+1))):=by
      have h3:ss=ss.take j++(sg :: ss.drop (j+1)):=by
       conv=>lhs;rw [<- List.take_append_drop (j+1) ss,htk,List.append_assoc]
       rfl
      conv=>lhs;rw [h3]
      rw [Xp]
      rfl
     rw [h2] at h1
     simp at h1
     omega
    have hsl:(Kv size (ss.take j)).segs.length<=1000000:=by have:=hdl.few;simp [Kv];omega
    have hlr:=fun (w':World) (v:Value) (k:Keep No wr w') (hv:Qv base w' v sg.bytes)=>show Calls Tryz.prog 102 #[.pointer (some ⟨w.heap.size,0,none⟩),.int .u64 sg.n,v] w' (SegPost base w' w.heap.size p sv lv (Kv size (ss.take (j+1)))) from by
     rw [htk,<- logOf_add]
     have hkk:=hK.then k
     cases hhd:sg.headed with
     | true=>exact lread_head (hL.no k) (Nat.le_trans HH.out.2.2.2.1 hkk.size) (Nat.le_trans HH.out.2.2.2.2.1 hkk.size) hv (hdl.ok sg hmem) hhd (hdl.chain j sg hsj hhd) hsl hrl hbl
     | false=>exact lread_bare (hL.no k) (Nat.le_trans HH.out.2.2.2.1 hkk.size) hv (hdl.ok sg hmem) hhd hsl
    have HL:=Lib.hid (A7 hlr hL hK hG hN hD hlt)
    clear hlr hL hK hG hN hD hkj hsj hmem htk hdl hread hbl hrl hsl hlt hj
    go_wp2_with (first
     | (go_at_call 102;refine (HL.out.1 _ _ k2 hv2).mono ?_;rintro e w3 ⟨rfl,hpost⟩)
     | (go_at_call 81;refine hrd.mono ?_;rintro e w2 ⟨v2,rfl,hv2,_,k2⟩;obtain ⟨o2,c2,rfl⟩:=hv2.form))
    obtain ⟨sv',lv',hL',kS,own'⟩:=hpost
    go_roundw
    case rel =>
     have hk2:=HL.out.2.2.1.then k2
     have hL2:=HL.out.2.1.no k2
     refine ⟨j+1,by have:=HL.out.2.2.2.2.2.2;omega,by go_num,sv',lv',hL',hk2.absorb kS HL.out.2.2.2.1,fun b hb=>?_,hL2.nums (HL.out.2.2.2.2.1.no k2) kS,(HL.out.2.2.2.2.2.1.no k2).byL hL2 kS⟩
     rcases own' b hb with h | h
     ·exact HL.out.2.2.2.1 b h
     ·exact Nat.le_trans hk2.size h
    case measure=>have:=HL.out.2.2.2.2.2.2;simp [intOf];omega
   ·have hji:¬(j:Int)<(ss.length:Int):=by omega
    obtain rfl:j=ss.length:=by omega
    clear hlt
    go_wp2
    go_meet
    exact ⟨sv,lv,hL,hK,hG,hN,hD⟩
 case rest =>
  clear hO
  obtain ⟨sv,lv,hL,hK,hG,hN,hD⟩:=hcut
  rw [List.take_length] at hL
  generalize wc=w2 at *
  have c4:=Qq hL.blk 4
  have f4:=Qg hL.blk 4
  simp at c4
  have e:max ((Kv size ss).next:Int) 1=((max (Zz 0 ss) 1:Nat):Int):=by
   show max ((Zz 0 ss:Nat):Int) 1=_
   omega
  obtain ⟨hb3,hs3,hr3,k3⟩:=Ut hL.blk hL.gb hL.segs hL.recs 4 (.int .u64 (max ((Kv size ss).next:Int) 1)) rfl
  have HR:=Lib.hid (A9 hb3 hs3 hr3 k3 hL hK hG hD e)
  clear hb3 hs3 hr3 k3 hL hK hG hN hD e
  go_wp2
  go_ret2
  obtain ⟨hb3,hs3,hr3,k3,hL,hK,hG,hD,e⟩:=HR.out
  refine ⟨w.heap.size,sv,lv,rfl,⟨?_,hs3,hr3,HH.out.2.2.2.1⟩,hD.byL hL (k3.mono (fun _ _ e=>.inl e)),hK.absorb k3 (fun b e=>by rw [e];exact Nat.le_refl _),hG⟩
  rw [hb3]
  simp [e]
end Go.Proofs.YtfdmbomlkpkegaaGreat
