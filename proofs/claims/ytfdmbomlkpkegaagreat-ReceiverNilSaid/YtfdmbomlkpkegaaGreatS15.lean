/- Lemmas for ReceiverNil. -/
import Derived.Deep.DeepCutAuto
import Derived.Deep.CutBlock
import Derived.Test.YtfdmbomlkpkegaaGreatS5
set_option maxRecDepth 100000
set_option maxHeartbeats 8000000
set_option linter.all false
namespace Go.Proofs.YtfdmbomlkpkegaaGreat
open Go Go.RowKit Go.Dr
theorem takeN_drop {l:Qs} {j:Nat} {x:UInt8} (h:l[j]?=some x):takeN (l.drop j)=x.toNat+256*takeN (l.drop (j+1)):=by
 obtain ⟨h1,h2⟩:=List.getElem?_eq_some_iff.1 h
 rw [List.drop_eq_getElem_cons h1,h2]
 rfl
theorem takeN_lay4 {m:Nat} (h:m<4294967296):takeN (layB m 4)=m:=by
 rw [Uf]
 exact Nat.mod_eq_of_lt h
theorem rTake_spec [bn:Inhabited Ban] {base:Nat} {w:World} {v:Value} {l:Qs} (h:Qv base w v l) (hl:l.length<=8) :
  Calls Tryz.prog 206 #[v] w fun e w'=>e=.returned (.int .u64 (takeN l:Nat))/\w'=w:=by
 obtain ⟨ao,cap,rfl,hc,hm,hn,hcell⟩:=h
 have hli:(l.length:Int)<=8:=by omega
 go_enter Tryz.func206,Tryz.ntmps206
 go_wp2
 go_loop [3,4] (fun s i=>∃ j:Nat,j<=l.length/\i=.int .i64 ((j:Int) - 1)/\s=.int .u64 (takeN (l.drop j):Nat)) (fun _ i=>(intOf i+1).toNat)
 case atStart=>exact ⟨l.length,Nat.le_refl _,by go_num,by simp [takeN]⟩
 case round =>
  obtain ⟨j,hj,rfl,rfl⟩:=hrel
  rcases j with _ | j
  ·have hji:¬(0:Int)<=((0:Nat):Int) - 1:=by decide
   go_wp2
   go_ret
   exact ⟨rfl,rfl⟩
  ·have hj1:((j+1:Nat):Int) - 1=(j:Int):=by omega
   have hj0:(0:Int)<=(j:Int):=by omega
   have hxj:l[j]?=some l[j]:=List.getElem?_eq_getElem (by omega)
   obtain ⟨ad,rfl,hbb,hcl⟩:=hcell j _ hxj
   have hst:=takeN_drop hxj
   have hb:=takeN_lt (l.drop (j+1))
   rw [List.length_drop] at hb
   have hp:2 ^ (8*(l.length - (j+1)))<=2 ^ 56:=Nat.pow_le_pow_right (by decide) (by omega)
   have hb:=Nat.lt_of_lt_of_le hb hp
   clear hp
   have hx:=l[j].toNat_lt
   generalize l[j]=x at *
   generalize takeN (l.drop (j+1))=t at *
   unfold u8v at hcl
   have hw1:IntKind.u64.wrap (256*(t:Int))=((256*t:Nat):Int):=by rw [IntKind.wrap_u64];omega
   have hw2:IntKind.u64.wrap (256*(t:Int)+(x.toNat:Int))=((takeN (l.drop j):Nat):Int):=by rw [hst,IntKind.wrap_u64];omega
   have hji:(j:Int)<(l.length:Int):=by omega
   have hxi:(x.toNat:Int)<256:=by omega
   have hxw:IntKind.u64.wrap (x.toNat:Int)=(x.toNat:Int):=by rw [IntKind.wrap_u64];omega
   rw [hj1]
   have HJ:=Lib.hid hj
   clear hst hb hx hxj hcell hj hj1
   go_wp2
   go_round
   case rel=>exact ⟨j,by have:=HJ.out;omega,by go_num,by rfl⟩
   case measure=>simp [intOf]
theorem slices1 [bn:Inhabited Ban] {base:Nat} {w:World} {v1:Value} {a:Qs} (h1:Qv base w v1 a) :
  Zb base (w.alloc (.cells #[v1] 59)) (.slice (some ⟨w.heap.size,0,none⟩) 1 1) [a]:=by
 have kA:Keep No w (w.alloc (.cells #[v1] 59)):=(Keep.refl _ _).alloc _
 exact Zb.of_block (Qy w _) [a] rfl (by simp [maxLen]) (fun i u l e1 e2=>by
  match i,e1,e2 with
  | 0,e1,e2=>simp at e1 e2;subst e1 e2;exact h1.no kA)
theorem rOpen_close [bn:Inhabited Ban] {base:Nat} {w:World} {v:Value} {t:Qs} (h:Qv base w v (Ye t)) (_hT:ban.top<=w.heap.size) (hl:t.length<=1000) :
  Calls Tryz.prog 205 #[v] w fun e w'=>∃ v',e=.returned (.tuple #[v',.int .i64 0])/\OwnB w' w.heap.size v' t/\Keep No w w':=by
 obtain ⟨ao,cap,rfl⟩:=h.form
 have hcl:=closeB_length t
 have hcap:(Ye t).length<=cap/\cap<=maxLen:=by obtain ⟨_,_,hq,h1,h2,_⟩:=h;simp at hq;omega
 unfold maxLen at hcap
 obtain ⟨o2,c2,hrun,hsub⟩:=Rg ao (Ye t).length cap t.length t.length rfl (by omega) hcap.1
 have e1:((Ye t).take (Ye t).length).drop t.length=layB (moreN 0 t) 4:=by rw [List.take_of_length_le (Nat.le_refl _)];unfold Ye;exact List.drop_left' rfl
 have e2:(Ye t).take t.length=t:=by unfold Ye;exact List.take_left' rfl
 have hs2:=hsub base w _ h
 rw [e1] at hs2
 have ht:=h.take t.length (by omega)
 rw [e2] at ht
 have htk:=fun (w':World) (k:Keep No w w')=>rTake_spec (hs2.no k) (by rw [Zu];decide)
 have hm:=Kc 0 t
 rw [takeN_lay4 (by exact hm)] at htk
 have hsum:=fun (w':World) (k:Keep No w w')=>rSum_spec (ht.no k)
 have hn4:(Ye t).length-t.length=4:=by omega
 have hj:=fun (w':World) (k:Keep No w w')=>Xv (slices1 (ht.no k)) (by simp;omega)
 have hci:((Ye t).length:Int) - 4=(t.length:Int):=by omega
 have hc4:¬((Ye t).length:Int)<4:=by omega
 have hci2:(t.length:Int)<=(cap:Int):=by omega
 have hci3:(t.length:Int)<=1000:=by omega
 generalize moreN 0 t=m at *
 have hmw:IntKind.u64.wrap (m:Int)=(m:Int):=by rw [IntKind.wrap_u64];omega
 rw [hn4] at hrun htk
 have HC:=Lib.hid (A3 htk hsum hj)
 clear htk hsum hj hm h hs2 ht e1 e2 hn4 hsub hcap hl hcl
 generalize (Ye t).length=q at *
 go_enter Tryz.func205,Tryz.ntmps205
 go_upto_region 4 with fail
 refine Ql (fun w'=>Keep No w w') [0,1,2,4,5,6] [3,7] [8,9] (by kernel_rfl) (by kernel_rfl) (fun _ _ _ _ _ h=>h) (Keep.refl _ _).drew ?_
 have kd:Keep No w w.drew:=(Keep.refl _ _).drew
 iterate 6 (refine Qk (v:=?_) rfl rfl rfl ?_ ?_;rotate_left;focus (
  intro w' hq
  go_simp
  try with_reducible rfl))
 refine Qj ?_
 refine Qx rfl rfl (fun K hK=>?_)
 go_simp
 refine (HC.out.1 _ kd).mono ?_
 rintro e w1 ⟨rfl,rfl⟩
 refine hK _ _ kd ?_
 clear hK K
 refine Qx rfl rfl (fun K hK=>?_)
 go_simp
 refine (HC.out.2.1 _ kd).mono ?_
 rintro e w1 ⟨rfl,rfl⟩
 refine hK _ _ kd ?_
 clear hK K
 refine Qh (Qu rfl (Qu rfl (Qm ?_)))
 go_wp2_with (go_at_call 97;refine (HC.out.2.2 _ kd).mono ?_;rintro e w3 ⟨v3,rfl,own3,k3⟩)
 go_ret2
 refine ⟨_,rfl,?_,(kd.alloc _).then k3⟩
 have e:[t].flatten=t:=by simp
 rw [e] at own3
 exact own3.mono (kd.alloc _).size
end Go.Proofs.YtfdmbomlkpkegaaGreat
