/- Lemmas for ReceiverNil. -/
import Derived.Test.YtfdmbomlkpkegaaGreatS2
import Derived.Sort.LotD3
import Derived.CellFam
import Derived.Deep.Draws
import Derived.Deep.QuietTactic
import Derived.BigQuiet
import Derived.BigGuard
import Derived.BigCall
import Derived.Deep.DeepCutAuto
import Derived.Test.YtfdmbomlkpkegaaGreatS9
import Derived.Deep.CutBlock
import Derived.Sort.LotD4
import Derived.Sort.LotC
import Derived.Sort.LotD5
import Derived.Lib.BitFns
import Derived.Lib.Walk
import Derived.Lib.Small
import Derived.Lib.Strings
import Derived.Lib.Tables
import Derived.Laws.Bits64b
set_option maxRecDepth 100000
set_option maxHeartbeats 8000000
set_option linter.all false
namespace Go.Proofs.YtfdmbomlkpkegaaGreat
open Go Go.RowKit Go.Sort
def Zj (w:World) (g off:Nat) (d:Array Int):Prop :=
 ∃ cs:Array Value,w.heap[g]?=some (.cells cs 27 (0,0))/\∀ j,j<d.size->cs[off+j]?=some (.int .u64 d[j]!)
theorem Zj.keep {w w':World} {g off:Nat} {d:Array Int} {F:Nat->Prop} (h:Zj w g off d) (k:Keep F w w') (hg:¬F g):Zj w' g off d:=by
 obtain ⟨cs,h1,h2⟩:=h
 exact ⟨cs,k.heap h1 hg,h2⟩
theorem Zj.cell {w:World} {g off:Nat} {d:Array Int} (h:Zj w g off d) {j:Nat} (hj:j<d.size):w.cell? ⟨g,off+j,none⟩=some (.int .u64 d[j]!):=by
 obtain ⟨cs,h1,h2⟩:=h
 rw [Qq h1]
 exact h2 j hj
theorem Zj.frozen {w:World} {g off:Nat} {d:Array Int} (h:Zj w g off d) (j:Nat):w.frozen? ⟨g,off+j,none⟩=false:=by
 obtain ⟨cs,h1,_⟩:=h
 exact Qg h1 _
theorem Zj.swap {w:World} {g off:Nat} {d:Array Int} (h:Zj w g off d) {i j:Nat} (hi:i<d.size) (hj:j<d.size) :
  Zj ((w.setCell ⟨g,off+i,none⟩ (.int .u64 d[j]!)).setCell ⟨g,off+j,none⟩ (.int .u64 d[i]!)) g off (swp d i j) /\
  Keep (·=g) w ((w.setCell ⟨g,off+i,none⟩ (.int .u64 d[j]!)).setCell ⟨g,off+j,none⟩ (.int .u64 d[i]!)):=by
 obtain ⟨cs,h1,h2⟩:=h
 have hb:=Qz (i:=off+j) (u:=.int .u64 d[i]!) (Qz (i:=off+i) (u:=.int .u64 d[j]!) h1)
 refine ⟨⟨_,hb,fun k hk=>?_⟩,Keep.setCell (F:=(·=g)) (Keep.setCell (F:=(·=g)) (Keep.refl _ _) (p:=⟨g,off+i,none⟩) (.inl rfl) _) (p:=⟨g,off+j,none⟩) (.inl rfl) _⟩
 rw [size_swp] at hk
 have hsz:∀ t,t<d.size->off+t<cs.size:=fun t ht=>(Array.getElem?_eq_some_iff.1 (h2 t ht)).1
 have hki':=hsz k hk
 rw [Array.getElem?_setIfInBounds,Array.getElem?_setIfInBounds]
 by_cases hkj:k=j
 ·rw [if_pos (by omega),if_pos (by simpa using (by rw [<- hkj];exact hki')),hkj,swp_right _ _ _ hj]
 ·rw [if_neg (by omega)]
  by_cases hki:k=i
  ·rw [if_pos (by omega),if_pos (by rw [<- hki];exact hki'),hki,swp_left _ _ _ hi (by omega)]
  ·rw [if_neg (by omega),h2 k hk,swp_other _ _ _ _ hki hkj]
theorem isnan_spec (x:Int) (w:World):Calls Tryz.prog 233 #[.int .u64 x] w fun e w'=>e=.returned (.bool false)/\w'=w:=by
 go_enter Tryz.func233,Tryz.ntmps233
 go_wp2
 go_ret
 exact ⟨by simp,rfl⟩
theorem Zw (x y:Int) (w:World):Calls Tryz.prog 223 #[.int .u64 x,.int .u64 y] w fun e w'=>e=.returned (.bool (ltInt x y))/\w'=w:=by
 go_enter Tryz.func223,Tryz.ntmps223
 go_wp2_with (go_at_call 233;refine (isnan_spec _ _).mono ?_;rintro e w' ⟨rfl,rfl⟩)
 go_ret
 exact ⟨rfl,rfl⟩
def Yk (m:AMap):List Int:=(m.map (·.1)).mergeSort (fun x y=>decide (x<=y))
def Kh (w:World) (v:Value) (l:List Int):Prop :=
 ∃ ao cap,v=.slice ao l.length cap/\l.length<=cap/\cap<=maxLen/\(l=[]\/∃ g,ao=some ⟨g,0,none⟩/\Zj w g 0 l.toArray)
theorem Kh.keep {w w':World} {v:Value} {l:List Int} {F:Nat->Prop} (h:Kh w v l) (k:Keep F w w') (hn:∀ g a b,v=.slice (some ⟨g,0,none⟩) a b->¬F g):Kh w' v l:=by
 obtain ⟨ao,cap,rfl,h1,h2,h3⟩:=h
 refine ⟨ao,cap,rfl,h1,h2,?_⟩
 rcases h3 with h3 | ⟨g,rfl,h3⟩
 ·exact .inl h3
 ·exact .inr ⟨g,rfl,h3.keep k (hn g _ _ rfl)⟩
theorem Kh.no {w w':World} {v:Value} {l:List Int} (h:Kh w v l) (k:Keep No w w'):Kh w' v l:=h.keep k (fun _ _ _ _ h=>h)
theorem Kh.form {w:World} {v:Value} {l:List Int} (h:Kh w v l):∃ ao cap,v=.slice ao l.length cap/\l.length<=cap/\cap<=maxLen:=by
 obtain ⟨ao,cap,h,h1,h2,_⟩:=h
 exact ⟨ao,cap,h,h1,h2⟩
theorem Kh.cell {w:World} {ao:Option Addr} {n cap:Nat} {l:List Int} (h:Kh w (.slice ao n cap) l) {j:Nat} {k:Int} (hj:l[j]?=some k):∃ g,ao=some ⟨g,0,none⟩/\w.cell? ⟨g,j,none⟩=some (.int .u64 k):=by
 obtain ⟨ao',cap',h1,h2,h3,h4⟩:=h
 simp only [Value.slice.injEq] at h1
 obtain ⟨rfl,rfl,rfl⟩:=h1
 have hlt:=(List.getElem?_eq_some_iff.1 hj).1
 rcases h4 with rfl | ⟨g,rfl,hR⟩
 ·simp at hj
 ·refine ⟨g,rfl,?_⟩
  have:=hR.cell (j:=j) (by simpa using hlt)
  rw [Nat.zero_add] at this
  rw [this]
  have e:l.toArray[j]! = k:=by
   rw [getElem!_pos l.toArray j (by simpa using hlt)]
   simpa using (List.getElem?_eq_some_iff.1 hj).2
  rw [e]
theorem mem_keys_iff (m:AMap) (k:Int):k∈m.map (·.1) ↔ (mget m k).isSome=true:=by
 induction m with
 | nil=>simp [mget]
 | cons e m ih =>
  rw [Zh,List.map_cons,List.mem_cons]
  by_cases h:e.1=k
  ·simp [h]
  ·rw [if_neg h,<- ih]
   constructor
   ·rintro (h' | h')
    ·exact absurd h'.symm h
    ·exact h'
   ·exact .inr
theorem Keys.nodup {m:AMap} (h:Keys m):(m.map (·.1)).Nodup:=List.pairwise_map.2 h
theorem sortedKeys_eq {a b:AMap} (ha:Kd a) (hb:Keys b) (h:Jf a b):Yk b=a.map (·.1):=by
 have hp:(Yk b).Perm (a.map (·.1)):=by
  refine (List.mergeSort_perm _ _).trans ((List.perm_ext_iff_of_nodup hb.nodup ha.keys.nodup).2 (fun k=>?_))
  rw [mem_keys_iff,mem_keys_iff,h k]
 refine hp.eq_of_pairwise (le:=fun x y=>x<=y) (fun x y _ _ h1 h2=>Int.le_antisymm h1 h2) ?_ ?_
 ·have:=List.pairwise_mergeSort (le:=fun x y:Int=>decide (x<=y)) (fun x y z h1 h2=>by simp at h1 h2 ⊢;omega) (fun x y=>by simp;omega) (b.map (·.1))
  exact this.imp (fun h=>by simpa using h)
 ·exact List.pairwise_map.2 (ha.imp (fun h=>by omega))
theorem sortedKeys_length (m:AMap):(Yk m).length=m.length:=by
 unfold Yk
 rw [(List.mergeSort_perm _ _).length_eq,List.length_map]
theorem insInner_step (a k:Nat) (d:Array Int) (h:a<k+1) (hl:ltInt d[k+1]! d[k]! = true):insInner ltInt a (k+1) d=insInner ltInt a k (swp d (k+1) k):=by
 rw [insInner];simp [h,hl]
theorem insInner_end (a k:Nat) (d:Array Int) (h:k+1<=a\/ltInt d[k+1]! d[k]! = false):insInner ltInt a (k+1) d=d:=by
 rw [insInner]
 rcases h with h | h
 ·simp [show ¬k+1 > a by omega]
 ·simp [h]
theorem insOuter_step (a b i:Nat) (d:Array Int) (h:i<b):insOuter ltInt a b i d=insOuter ltInt a b (i+1) (insInner ltInt a i d):=by rw [insOuter,if_pos h]
theorem insOuter_end (a b i:Nat) (d:Array Int) (h:¬i<b):insOuter ltInt a b i d=d:=by rw [insOuter,if_neg h]
theorem ins_spec {w:World} {g off cap a b:Nat} {d:Array Int} (h:Zj w g off d) (hab:a<=b) (hb:b<=d.size) (hsz:d.size<=1099511627776) :
  Calls Tryz.prog 217 #[.slice (some ⟨g,off,none⟩) d.size cap,.int .i64 a,.int .i64 b] w fun e w'=>e=.returned (.tuple #[])/\Zj w' g off (insertionSort ltInt d a b)/\Keep (·=g) w w':=by
 go_enter Tryz.func217,Tryz.ntmps217
 go_wp2
 go_loopw [6] (fun vi wr=>∃ (i:Nat) (dk:Array Int),vi=.int .i64 i/\a<i/\i<=b+1/\dk.size=d.size/\Zj wr g off dk/\Keep (·=g) w wr/\insOuter ltInt a b i dk=insOuter ltInt a b (a+1) d) (fun vi _=>b+1 - (intOf vi).toNat)
 case atStart=>exact ⟨a+1,d,by go_num,by omega,by omega,rfl,h,Keep.refl _ _,rfl⟩
 case round =>
  clear h
  obtain ⟨i,dk,rfl,hai,hib,hsk,hR,hK,hO⟩:=hrel
  have HO:=Lib.hid (A3 hO hR hK)
  clear hO hR hK
  by_cases hlt:i<b
  ·have hlti:(i:Int)<(b:Int):=by omega
   go_wp2_with fail
   go_loopw [7] (fun vj wr2=>∃ (j:Nat) (dj:Array Int),vj=.int .i64 j/\a<=j/\j<=i/\dj.size=d.size/\Zj wr2 g off dj/\Keep (·=g) w wr2/\insInner ltInt a j dj=insInner ltInt a i dk) (fun vj _=>(intOf vj).toNat)
   case atStart=>exact ⟨i,dk,rfl,by omega,Nat.le_refl _,hsk,HO.out.2.1,HO.out.2.2,rfl⟩
   case round =>
    obtain ⟨j,dj,rfl,haj,hji,hsj,hR,hK,hI⟩:=hrel
    obtain ⟨G,hG⟩:∃ G:Nat->Int,∀ t,G t=dj[t]!:=⟨fun t=>dj[t]!,fun _=>rfl⟩
    have hcw:∀ t,t<d.size->wr.cell? ⟨g,off+t,none⟩=some (.int .u64 (G t)):=fun t ht=>by rw [hG];exact hR.cell (by omega)
    have hfw:∀ t,t<d.size->wr.frozen? ⟨g,off+t,none⟩=false:=fun t _=>hR.frozen t
    have HI:=Lib.hid (A4 hI hG hR hK)
    clear hI hG hR hK
    have hout:∀ nq,(j<=a\/ltInt (G j) (G (j - 1))=false)->∃ (i':Nat) (dk':Array Int),Value.int .i64 ((i:Int)+1)=.int .i64 i'/\a<i'/\i'<=b+1/\dk'.size=d.size/\Zj (wr.drewN nq) g off dk'/\Keep (·=g) w (wr.drewN nq)/\insOuter ltInt a b i' dk'=insOuter ltInt a b (a+1) d:=fun nq hs =>
     ⟨i+1,dj,by go_num,by omega,by omega,hsj,HI.out.2.2.1.keep ((Keep.refl No wr).drewN nq) (fun e=>e),HI.out.2.2.2.drewN nq,by
      rw [<- HO.out.1,insOuter_step _ _ _ _ hlt,<- HI.out.1]
      congr 1
      cases j with
      | zero=>rw [insInner]
      | succ k=>exact (insInner_end _ _ _ (by simpa [HI.out.2.1] using hs)).symm⟩
    have OUT:=Lib.hid hout
    clear hout
    by_cases hja:a<j
    ·have hji':(a:Int)<(j:Int):=by omega
     go_wp2
     go_quiet (first | (go_at_call 223;refine Calls.quiet_of_same (Zw _ _ _)))
     go_wp2
     ·have hl:ltInt (G j) (G (j - 1))=true:=by assumption
      go_region
      all_goals go_wp2
      go_roundw
      case rel =>
       have hsw:=(HI.out.2.2.1.keep ((Keep.refl No wr).drewN (nq+1)) (fun e=>e)).swap (i:=j) (j:=j - 1) (by omega) (by omega)
       rw [<- HI.out.2.1,<- HI.out.2.1] at hsw
       refine ⟨j - 1,swp dj j (j - 1),by congr 1;omega,by omega,by omega,by rw [size_swp];exact hsj,hsw.1,((HI.out.2.2.2.drewN (nq+1)).trans hsw.2 (fun _ _ e=>e)),?_⟩
       rw [<- HI.out.1]
       obtain ⟨k,rfl⟩:∃ k,j=k+1:=⟨j - 1,by omega⟩
       exact (insInner_step _ _ _ hja (by rw [<- HI.out.2.1,<- HI.out.2.1];exact hl)).symm
      case measure=>simp [intOf];omega
     ·have hl:ltInt (G j) (G (j - 1))=false:=by assumption
      go_roundw
      case rel=>exact OUT.out nq (Or.inr hl)
      case measure=>simp [intOf];omega
    ·have hji':¬(a:Int)<(j:Int):=by omega
     go_wp2
     go_quiet (first | (go_at_call 223;refine Calls.quiet_of_same (Zw _ _ _)))
     go_wp2
     go_roundw
     case rel=>exact OUT.out nq (Or.inl (by omega))
     case measure=>simp [intOf];omega
  ·have hlti:¬(i:Int)<(b:Int):=by omega
   go_wp2
   go_end0
   exact ⟨rfl,by unfold insertionSort;rw [<- HO.out.1,insOuter_end _ _ _ _ hlt];exact HO.out.2.1,HO.out.2.2⟩
theorem reverseLoop_step (i j:Nat) (d:Array Int) (h:i<j):reverseLoop i j d=reverseLoop (i+1) (j - 1) (swp d i j):=by rw [reverseLoop,if_pos h]
theorem reverseLoop_end (i j:Nat) (d:Array Int) (h:¬i<j):reverseLoop i j d=d:=by rw [reverseLoop,if_neg h]
theorem rev_spec {w:World} {g off cap a b:Nat} {d:Array Int} (h:Zj w g off d) (hab:a<b) (hb:b<=d.size) (hsz:d.size<=1099511627776) :
  Calls Tryz.prog 221 #[.slice (some ⟨g,off,none⟩) d.size cap,.int .i64 a,.int .i64 b] w fun e w'=>e=.returned (.tuple #[])/\Zj w' g off (reverseRange d a b)/\Keep (·=g) w w':=by
 go_enter Tryz.func221,Tryz.ntmps221
 go_wp2
 go_loopw [6,7] (fun vi vj wr=>∃ (i j:Nat) (dk:Array Int),vi=.int .i64 i/\vj=.int .i64 j/\j<d.size/\i<=d.size/\dk.size=d.size/\Zj wr g off dk/\Keep (·=g) w wr/\reverseLoop i j dk=reverseLoop a (b - 1) d) (fun _ vj _=>(intOf vj).toNat)
 case atStart=>exact ⟨a,b - 1,d,rfl,by congr 1;omega,by omega,by omega,rfl,h,Keep.refl _ _,rfl⟩
 case round =>
  clear h
  obtain ⟨i,j,dj,rfl,rfl,hjs,his,hsj,hR,hK,hI⟩:=hrel
  obtain ⟨G,hG⟩:∃ G:Nat->Int,∀ t,G t=dj[t]!:=⟨fun t=>dj[t]!,fun _=>rfl⟩
  have hcw:∀ t,t<d.size->wr.cell? ⟨g,off+t,none⟩=some (.int .u64 (G t)):=fun t ht=>by rw [hG];exact hR.cell (by omega)
  have hfw:∀ t,t<d.size->wr.frozen? ⟨g,off+t,none⟩=false:=fun t _=>hR.frozen t
  have HI:=Lib.hid (A4 hI hG hR hK)
  clear hI hG hR hK
  by_cases hij:i<j
  ·have hij':(i:Int)<(j:Int):=by omega
   go_wp2
   go_region
   all_goals go_wp2
   go_roundw
   case rel =>
    have hsw:=(HI.out.2.2.1.keep ((Keep.refl No wr).drewN 1) (fun e=>e)).swap (i:=i) (j:=j) (by omega) (by omega)
    rw [<- HI.out.2.1,<- HI.out.2.1] at hsw
    refine ⟨i+1,j - 1,swp dj i j,by go_num,by congr 1;omega,by omega,by omega,by rw [size_swp];exact hsj,hsw.1,((HI.out.2.2.2.drewN 1).trans hsw.2 (fun _ _ e=>e)),?_⟩
    rw [<- HI.out.1,reverseLoop_step _ _ _ hij]
   case measure=>simp [intOf];omega
  ·have hij':¬(i:Int)<(j:Int):=by omega
   go_wp2
   go_end0
   exact ⟨rfl,by unfold reverseRange;rw [<- HI.out.1,reverseLoop_end _ _ _ hij];exact HI.out.2.2.1,HI.out.2.2.2⟩
theorem siftDown_end (hi first root:Nat) (d:Array Int) (h:hi<=2*root+1):siftDown ltInt hi first root d=d:=by rw [siftDown,dif_pos h]
def Vs (hi first root:Nat) (d:Array Int):Nat:=if 2*root+1+1<hi && ltInt d[first+(2*root+1)]! d[first+(2*root+1)+1]! then 2*root+2 else 2*root+1
theorem siftDown_stop (hi first root:Nat) (d:Array Int) (h:¬hi<=2*root+1) (hl:ltInt d[first+root]! d[first+Vs hi first root d]! = false):siftDown ltInt hi first root d=d:=by
 rw [siftDown,dif_neg h]
 unfold Vs at hl
 split
 ·rename_i hq;rw [if_pos hq] at hl;simp [hl]
 ·rename_i hq;rw [if_neg hq] at hl;simp [hl]
theorem siftDown_step (hi first root:Nat) (d:Array Int) (h:¬hi<=2*root+1) (hl:ltInt d[first+root]! d[first+Vs hi first root d]! = true) :
  siftDown ltInt hi first root d=siftDown ltInt hi first (Vs hi first root d) (swp d (first+root) (first+Vs hi first root d)):=by
 conv=>lhs;rw [siftDown,dif_neg h]
 unfold Vs at hl ⊢
 split
 ·rename_i hq
  rw [if_pos hq] at hl
  have h2:2*root+2<hi:=by simp at hq;omega
  simp [hl,h2]
 ·rename_i hq
  rw [if_neg hq] at hl
  simp [hl]
theorem bigChild_cases (hi first root:Nat) (d:Array Int):Vs hi first root d=2*root+1\/(Vs hi first root d=2*root+2/\2*root+2<hi):=by
 unfold Vs
 split
 ·rename_i h;simp at h;exact .inr ⟨rfl,by omega⟩
 ·exact .inl rfl
theorem sift_spec {w:World} {g off cap lo hi first:Nat} {d:Array Int} (h:Zj w g off d) (hb:first+hi<=d.size) (hlo:lo<=d.size) (hsz:d.size<=1099511627776) :
  Calls Tryz.prog 228 #[.slice (some ⟨g,off,none⟩) d.size cap,.int .i64 lo,.int .i64 hi,.int .i64 first] w fun e w'=>e=.returned (.tuple #[])/\Zj w' g off (siftDown ltInt hi first lo d)/\Keep (·=g) w w':=by
 go_enter Tryz.func228,Tryz.ntmps228
 go_wp2
 go_loopw [8] (fun vr wr=>∃ (root:Nat) (dk:Array Int),vr=.int .i64 root/\root<=d.size/\dk.size=d.size/\Zj wr g off dk/\Keep (·=g) w wr/\siftDown ltInt hi first root dk=siftDown ltInt hi first lo d) (fun vr _=>hi - (intOf vr).toNat)
 case atStart=>exact ⟨lo,d,rfl,hlo,rfl,h,Keep.refl _ _,rfl⟩
 case round =>
  clear h
  obtain ⟨root,dj,rfl,hrs,hsj,hR,hK,hI⟩:=hrel
  obtain ⟨G,hG⟩:∃ G:Nat->Int,∀ t,G t=dj[t]!:=⟨fun t=>dj[t]!,fun _=>rfl⟩
  have hcw:∀ t,t<d.size->wr.cell? ⟨g,off+t,none⟩=some (.int .u64 (G t)):=fun t ht=>by rw [hG];exact hR.cell (by omega)
  by_cases hend:hi<=2*root+1
  ·have he:(hi:Int)<=2*(root:Int)+1:=by omega
   have HI:=Lib.hid (A3 hI hR hK)
   clear hI hR hK hcw hG
   go_wp2
   go_end0
   exact ⟨rfl,by rw [<- HI.out.1,siftDown_end _ _ _ _ hend];exact HI.out.2.1,HI.out.2.2⟩
  ·have he:¬(hi:Int)<=2*(root:Int)+1:=by omega
   obtain ⟨c,hc⟩:∃ c,c=Vs hi first root dj:=⟨_,rfl⟩
   have hcc:=bigChild_cases hi first root dj
   rw [<- hc] at hcc
   have hstop:=siftDown_stop hi first root dj hend
   have hstep:=siftDown_step hi first root dj hend
   rw [<- hc] at hstop hstep
   have hcd:c=if 2*root+1+1<hi && ltInt (G (first+(2*root+1))) (G (first+(2*root+1)+1)) then 2*root+2 else 2*root+1:=by rw [hc,hG,hG];rfl
   have HI:=Lib.hid (A6 hI hG hR hK hstop hstep)
   clear hI hG hR hK hstop hstep hc
   obtain ⟨cb,hcb⟩:∃ cb:Bool,cb=(decide (2*root+1+1<hi) && ltInt (G (first+(2*root+1))) (G (first+(2*root+1)+1))):=⟨_,rfl⟩
   go_upto_region 3 with fail
   go_cut [36] (fun v wx=>v=.bool cb/\Keep No wr wx)
   case first =>
    by_cases h2:2*root+1+1<hi
    ·have h2':2*(root:Int)+1+1<(hi:Int):=by omega
     have hcb':cb=ltInt (G (first+(2*root+1))) (G (first+(2*root+1)+1)):=by rw [hcb];simp [h2]
     have HC:=Lib.hid hcb'
     clear hcb hcd hcb'
     go_quiet (first | (go_at_call 223;refine Calls.quiet_of_same (Zw _ _ _)))
     go_wp2
     go_meet
     exact ⟨by rw [HC.out,show first+(2*root+1)+1=first+2*root+2 by omega,show first+(2*root+1)=first+2*root+1 by omega],(Keep.refl _ _).drewN _⟩
    ·have h2':¬2*(root:Int)+1+1<(hi:Int):=by omega
     have hcb':cb=false:=by rw [hcb];simp [h2]
     have HC:=Lib.hid hcb'
     clear hcb hcd hcb'
     go_quiet (first | (go_at_call 223;refine Calls.quiet_of_same (Zw _ _ _)))
     go_wp2
     go_meet
     exact ⟨by rw [HC.out],(Keep.refl _ _).drewN _⟩
   case rest =>
    obtain ⟨rfl,k1⟩:=hcut
    generalize wc=w1 at *
    have hR1:=HI.out.2.2.1.keep k1 (fun e=>e)
    have hK1:=HI.out.2.2.2.1.trans k1 (fun _ _ e=>e.elim)
    have hcw:∀ t,t<d.size->w1.cell? ⟨g,off+t,none⟩=some (.int .u64 (G t)):=fun t ht=>by rw [HI.out.2.1];exact hR1.cell (by omega)
    have hfw:∀ t,t<d.size->w1.frozen? ⟨g,off+t,none⟩=false:=fun t _=>hR1.frozen t
    rw [<- hcb] at hcd
    have HJ:=Lib.hid (A4 hR1 hK1 hcd hcc)
    clear hR1 hK1 hcb
    go_upto_if 36 with fail
    go_cut [9] (fun v wx=>v=.int .i64 c/\wx=w1)
    case first =>
     cases cb with
     | true =>
      have e:c=2*root+2:=hcd
      clear hcd hcc
      go_wp2
      go_meet
      exact ⟨by congr 1;omega,rfl⟩
     | false =>
      have e:c=2*root+1:=hcd
      clear hcd hcc
      go_wp2
      go_meet
      exact ⟨by congr 1;omega,rfl⟩
    case rest =>
     obtain ⟨rfl,rfl⟩:=hcut
     have hcl:first+c<d.size:=by have:=HJ.out.2.2.2;omega
     have hrl:first+root<d.size:=by omega
     have hrc:root<c:=by omega
     clear hcd hcc he
     go_wp2
     go_quiet (first | (go_at_call 223;refine Calls.quiet_of_same (Zw _ _ _)))
     go_wp2
     ·have hl0:(!ltInt (G (first+root)) (G (first+c)))=true:=by assumption
      have hl:ltInt (G (first+root)) (G (first+c))=false:=by simpa using hl0
      refine bodyPost_ret (results_none rfl _ _ _) rfl ?_
      refine ⟨rfl,?_,HJ.out.2.1.drewN _⟩
      rw [<- HI.out.1,HI.out.2.2.2.2.1 (by rw [<- HI.out.2.1,<- HI.out.2.1];exact hl)]
      exact HJ.out.1.keep ((Keep.refl No _).drewN _) (fun e=>e)
     ·have hl0:(!ltInt (G (first+root)) (G (first+c)))=false:=by assumption
      have hl:ltInt (G (first+root)) (G (first+c))=true:=by simpa using hl0
      go_region
      all_goals go_wp2
      go_roundw
      case rel =>
       have hsw:=(HJ.out.1.keep ((Keep.refl No _).drewN (nq+1)) (fun e=>e)).swap (i:=first+root) (j:=first+c) (by omega) (by omega)
       rw [<- HI.out.2.1,<- HI.out.2.1] at hsw
       refine ⟨c,swp dj (first+root) (first+c),rfl,by omega,by rw [size_swp];exact hsj,hsw.1,((HJ.out.2.1.drewN (nq+1)).trans hsw.2 (fun _ _ e=>e)),?_⟩
       rw [<- HI.out.1,HI.out.2.2.2.2.2 (by rw [<- HI.out.2.1,<- HI.out.2.1];exact hl)]
      case measure =>
       have:=HJ.out.2.2.2
       simp [intOf];omega
theorem siftDown_size (hi first:Nat):∀ (n root:Nat) (d:Array Int),hi-root<=n->(siftDown ltInt hi first root d).size=d.size:=by
 intro n
 induction n with
 | zero=>intro root d h;rw [siftDown_end _ _ _ _ (by omega)]
 | succ n ih =>
  intro root d h
  by_cases he:hi<=2*root+1
  ·rw [siftDown_end _ _ _ _ he]
  ·cases hl:ltInt d[first+root]! d[first+Vs hi first root d]! with
   | false=>rw [siftDown_stop _ _ _ _ he hl]
   | true =>
    rw [siftDown_step _ _ _ _ he hl,ih _ _ (by have:=bigChild_cases hi first root d;omega),size_swp]
theorem heap_spec {w:World} {g off cap a b:Nat} {d:Array Int} (h:Zj w g off d) (hab:a<b) (hb:b<=d.size) (hsz:d.size<=1099511627776) :
  Calls Tryz.prog 218 #[.slice (some ⟨g,off,none⟩) d.size cap,.int .i64 a,.int .i64 b] w fun e w'=>e=.returned (.tuple #[])/\Zj w' g off (heapSort ltInt d a b)/\Keep (·=g) w w':=by
 obtain ⟨n,hna⟩:∃ n:Nat,b-a=n:=⟨_,rfl⟩
 have hbuild:∀ (k:Nat) (d:Array Int),heapBuild ltInt n a (k+1) d=heapBuild ltInt n a k (siftDown ltInt n a k d):=fun k d=>rfl
 have hpop:∀ (k:Nat) (d:Array Int),heapPop ltInt a (k+1) d=heapPop ltInt a k (siftDown ltInt k a 0 (swp d a (a+k))):=fun k d=>rfl
 have hq:((n:Int) - 1).tdiv 2=(((n - 1) / 2:Nat):Int):=by
  have e:(n:Int) - 1=((n - 1:Nat):Int):=by omega
  rw [e]
  rfl
 obtain ⟨m,hm⟩:∃ m:Nat,m=(n - 1) / 2:=⟨_,rfl⟩
 rw [<- hm] at hq
 have hmn:m<=n:=by omega
 have hn1:(n:Int)<=1099511627776:=by omega
 have hn0:(1:Int)<=(n:Int):=by omega
 have e0:(b:Int) - (a:Int)=(n:Int):=by omega
 have han:a+n<=d.size:=by omega
 unfold heapSort
 rw [hna,<- hm]
 have HB:=Lib.hid (A2 hbuild hpop)
 clear hbuild hpop hna hab hb
 go_enter Tryz.func218,Tryz.ntmps218
 go_upto_block 0 with fail
 go_cut [9] (fun _ wx=>Zj wx g off (heapBuild ltInt n a (m+1) d)/\(heapBuild ltInt n a (m+1) d).size=d.size/\Keep (·=g) w wx)
 case first =>
  go_wp2
  go_loopw [9] (fun vi wr=>∃ (k:Nat) (dk:Array Int),vi=.int .i64 ((k:Int) - 1)/\k<=n+1/\dk.size=d.size/\Zj wr g off dk/\Keep (·=g) w wr/\heapBuild ltInt n a k dk=heapBuild ltInt n a (m+1) d) (fun vi _=>(intOf vi+1).toNat)
  case atStart=>exact ⟨m+1,d,by go_num,by omega,rfl,h,Keep.refl _ _,rfl⟩
  case round =>
   clear h
   obtain ⟨k,dk,rfl,hkn,hsk,hR,hK,hI⟩:=hrel
   cases k with
   | zero =>
    have e:heapBuild ltInt n a 0 dk=dk:=rfl
    have HI:=Lib.hid (A4 hI hR hK e)
    clear hI hR hK e
    have hneg:¬(0:Int)<=(0:Int) - 1:=by omega
    go_wp2
    go_meet
    rw [<- HI.out.1,HI.out.2.2.2]
    exact ⟨HI.out.2.1,hsk,HI.out.2.2.1⟩
   | succ k =>
    have hk1:((k+1:Nat):Int) - 1=(k:Int):=by omega
    rw [hk1]
    have HI:=Lib.hid hI
    clear hI
    have hsift:=sift_spec (cap:=cap) hR (lo:=k) (hi:=n) (first:=a) (by omega) (by omega) (by omega)
    rw [hsk] at hsift
    clear hR hk1
    go_wp2_with (go_at_call 228;refine hsift.mono ?_;rintro e w2 ⟨rfl,hR2,hK2⟩)
    go_roundw
    case rel=>exact ⟨k,siftDown ltInt n a k dk,by go_num,by omega,by rw [siftDown_size n a (n-k) k dk (Nat.le_refl _)];exact hsk,hR2,hK.trans hK2 (fun _ _ e=>e),by rw [<- HB.out.1];exact HI.out⟩
    case measure=>simp [intOf]
 case rest =>
  obtain ⟨hR,hs,hK⟩:=hcut
  generalize wc=w1 at *
  obtain ⟨D1,hD1⟩:∃ D1,D1=heapBuild ltInt n a (m+1) d:=⟨_,rfl⟩
  rw [<- hD1] at hR hs
  have HD:=Lib.hid hD1
  clear hD1 h hq hm
  go_wp2
  go_loopw [10] (fun vi wr=>∃ (k:Nat) (dk:Array Int),vi=.int .i64 ((k:Int) - 1)/\k<=n/\dk.size=d.size/\Zj wr g off dk/\Keep (·=g) w wr/\heapPop ltInt a k dk=heapPop ltInt a n D1) (fun vi _=>(intOf vi+1).toNat)
  case atStart=>exact ⟨n,D1,by go_num,Nat.le_refl _,hs,hR,hK,rfl⟩
  case round =>
   clear hR hs hK
   obtain ⟨k,dk,rfl,hkn,hsk,hR,hK,hI⟩:=hrel
   cases k with
   | zero =>
    have e:heapPop ltInt a 0 dk=dk:=rfl
    have HI:=Lib.hid (A4 hI hR hK e)
    clear hI hR hK e
    have hneg:¬(0:Int)<=(0:Int) - 1:=by omega
    go_wp2
    go_end0
    rw [<- HD.out,<- HI.out.1,HI.out.2.2.2]
    exact ⟨rfl,HI.out.2.1,HI.out.2.2.1⟩
   | succ k =>
    obtain ⟨G,hG⟩:∃ G:Nat->Int,∀ t,G t=dk[t]!:=⟨fun t=>dk[t]!,fun _=>rfl⟩
    have hcw:∀ t,t<d.size->wr.cell? ⟨g,off+t,none⟩=some (.int .u64 (G t)):=fun t ht=>by rw [hG];exact hR.cell (by omega)
    have hfw:∀ t,t<d.size->wr.frozen? ⟨g,off+t,none⟩=false:=fun t _=>hR.frozen t
    have hstep:=HB.out.2 k dk
    have hsw:=(hR.keep ((Keep.refl No wr).drewN 1) (fun e=>e)).swap (i:=a) (j:=a+k) (by omega) (by omega)
    have hszs:(swp dk a (a+k)).size=d.size:=by rw [size_swp];exact hsk
    have hsift:=sift_spec (cap:=cap) hsw.1 (lo:=0) (hi:=k) (first:=a) (by omega) (by omega) (by omega)
    rw [hszs] at hsift
    rw [<- hG,<- hG] at hsift hsw
    have hK2:=(hK.drewN 1).trans hsw.2 (fun _ _ e=>e)
    have HI:=Lib.hid (A4 hI hstep hszs hK2)
    have HS:=Lib.hid hsift
    clear hI hG hR hK hstep hsw hszs hK2 hsift
    have hk1:((k+1:Nat):Int) - 1=(k:Int):=by omega
    rw [hk1]
    have fin:∀ w2,Zj w2 g off (siftDown ltInt k a 0 (swp dk a (a+k)))->Keep (·=g) w w2->∃ (k':Nat) (dk':Array Int),Value.int .i64 ((k:Int) - 1)=.int .i64 ((k':Int) - 1)/\k'<=n/\dk'.size=d.size/\Zj w2 g off dk'/\Keep (·=g) w w2/\heapPop ltInt a k' dk'=heapPop ltInt a n D1:=fun w2 h1 h2 =>
     ⟨k,siftDown ltInt k a 0 (swp dk a (a+k)),rfl,by omega,by rw [siftDown_size k a k 0 _ (by omega)];exact HI.out.2.2.1,h1,h2,by rw [<- HI.out.1];exact HI.out.2.1.symm⟩
    have FIN:=Lib.hid fin
    clear fin hk1
    by_cases hk0:k=0
    ·subst hk0
     go_wp2
     go_region
     all_goals go_wp2_with (go_at_call 228;refine HS.out.mono ?_;rintro e w2 ⟨rfl,hR2,hK2⟩)
     go_roundw
     case rel=>exact FIN.out _ hR2 (HI.out.2.2.2.trans hK2 (fun _ _ e=>e))
     case measure=>simp [intOf]
    ·have hka:a<a+k:=by omega
     go_wp2
     go_region
     all_goals go_wp2_with (go_at_call 228;refine HS.out.mono ?_;rintro e w2 ⟨rfl,hR2,hK2⟩)
     go_roundw
     case rel=>exact FIN.out _ hR2 (HI.out.2.2.2.trans hK2 (fun _ _ e=>e))
     case measure=>simp [intOf]
def BoxI (w:World) (s:Nat) (n:Nat):Prop:=w.heap[s]?=some (.cells #[.int .i64 n] 3 (0,0))
theorem order2_spec {w:World} {g off cap a b s n:Nat} {d:Array Int} (h:Zj w g off d) (hs:BoxI w s n) (hsg:s≠g) (ha:a<d.size) (hb:b<d.size) (hn:n<=1000) (_:d.size<=1099511627776) :
  Calls Tryz.prog 234 #[.slice (some ⟨g,off,none⟩) d.size cap,.int .i64 a,.int .i64 b,.pointer (some ⟨s,0,none⟩)] w fun e w' =>
   e=.returned (.tuple #[.int .i64 (order2 ltInt d a b n).1,.int .i64 (order2 ltInt d a b n).2.1])/\BoxI w' s (order2 ltInt d a b n).2.2/\Zj w' g off d/\Keep (·=s) w w':=by
 obtain ⟨G,hG⟩:∃ G:Nat->Int,∀ t,G t=d[t]!:=⟨fun t=>d[t]!,fun _=>rfl⟩
 have hcw:∀ t,t<d.size->w.cell? ⟨g,off+t,none⟩=some (.int .u64 (G t)):=fun t ht=>by rw [hG];exact h.cell ht
 have c0:=Qq hs 0
 have f0:=Qg hs 0
 simp at c0
 have h1:ltInt (G b) (G a)=true->order2 ltInt d a b n=(b,a,n+1):=fun hl=>by unfold order2;rw [<- hG,<- hG,hl];rfl
 have h2:ltInt (G b) (G a)=false->order2 ltInt d a b n=(a,b,n):=fun hl=>by unfold order2;rw [<- hG,<- hG,hl];rfl
 have HH:=Lib.hid (A4 h1 h2 h hs)
 clear h1 h2 h hs hG
 go_enter Tryz.func234,Tryz.ntmps234
 go_wp2
 go_quiet (first | (go_at_call 223;refine Calls.quiet_of_same (Zw _ _ _)))
 go_wp2
 ·have hl:ltInt (G b) (G a)=true:=by assumption
  go_ret2
  rw [HH.out.1 hl]
  have hK:Keep (·=s) w ((w.drewN nq).setCell ⟨s,0,none⟩ (.int .i64 ((n:Int)+1))):=Keep.setCell (F:=(·=s)) ((Keep.refl _ _).drewN nq) (p:=⟨s,0,none⟩) (.inl rfl) _
  have hb2:=Qz (w:=w.drewN nq) (i:=0) (u:=.int .i64 ((n:Int)+1)) HH.out.2.2.2
  exact ⟨rfl,by simpa [BoxI] using hb2,HH.out.2.2.1.keep hK (fun e=>hsg e.symm),hK⟩
 ·have hl:ltInt (G b) (G a)=false:=by assumption
  go_ret2
  rw [HH.out.2.1 hl]
  exact ⟨rfl,HH.out.2.2.2,HH.out.2.2.1.keep ((Keep.refl No _).drewN _) (fun e=>e),(Keep.refl _ _).drewN _⟩
theorem order2_lt {d:Array Int} {a b n:Nat} (ha:a<d.size) (hb:b<d.size):(order2 ltInt d a b n).1<d.size/\(order2 ltInt d a b n).2.1<d.size/\(order2 ltInt d a b n).2.2<=n+1:=by
 unfold order2
 split
 ·exact ⟨hb,ha,Nat.le_refl _⟩
 ·exact ⟨ha,hb,by simp⟩
theorem median_spec {w:World} {g off cap a b c s n:Nat} {d:Array Int} (h:Zj w g off d) (hs:BoxI w s n) (hsg:s≠g) (ha:a<d.size) (hb:b<d.size) (hc:c<d.size) (hn:n<=900) (hsz:d.size<=1099511627776) :
  Calls Tryz.prog 232 #[.slice (some ⟨g,off,none⟩) d.size cap,.int .i64 a,.int .i64 b,.int .i64 c,.pointer (some ⟨s,0,none⟩)] w fun e w' =>
   e=.returned (.int .i64 (median ltInt d a b c n).1)/\BoxI w' s (median ltInt d a b c n).2/\Zj w' g off d/\Keep (·=s) w w':=by
 have l1:=order2_lt (n:=n) ha hb
 have q1:=order2_spec (cap:=cap) h hs hsg ha hb (by omega) hsz
 have hm:median ltInt d a b c n=((order2 ltInt d (order2 ltInt d a b n).1 (order2 ltInt d (order2 ltInt d a b n).2.1 c (order2 ltInt d a b n).2.2).1 (order2 ltInt d (order2 ltInt d a b n).2.1 c (order2 ltInt d a b n).2.2).2.2).2.1,
  (order2 ltInt d (order2 ltInt d a b n).1 (order2 ltInt d (order2 ltInt d a b n).2.1 c (order2 ltInt d a b n).2.2).1 (order2 ltInt d (order2 ltInt d a b n).2.1 c (order2 ltInt d a b n).2.2).2.2).2.2):=rfl
 rw [hm]
 generalize order2 ltInt d a b n=r1 at *
 have l2:=order2_lt (n:=r1.2.2) l1.2.1 hc
 have q2:=fun (w':World) (h:Zj w' g off d) (hs:BoxI w' s r1.2.2)=>order2_spec (cap:=cap) h hs hsg l1.2.1 hc (by omega) hsz
 generalize order2 ltInt d r1.2.1 c r1.2.2=r2 at *
 have q3:=fun (w':World) (h:Zj w' g off d) (hs:BoxI w' s r2.2.2)=>order2_spec (cap:=cap) h hs hsg l1.1 l2.1 (by omega) hsz
 generalize order2 ltInt d r1.1 r2.1 r2.2.2=r3 at *
 clear h hs hm
 go_enter Tryz.func232,Tryz.ntmps232
 go_wp2_with fail
 refine q1.mono ?_
 rintro e w1 ⟨rfl,hs1,h1,k1⟩
 go_wp2_with fail
 refine (q2 _ h1 hs1).mono ?_
 rintro e w2 ⟨rfl,hs2,h2,k2⟩
 go_wp2_with fail
 refine (q3 _ h2 hs2).mono ?_
 rintro e w3 ⟨rfl,hs3,h3,k3⟩
 clear q1 q2 q3
 go_wp2
 go_ret
 exact ⟨rfl,hs3,h3,(k1.trans k2 (fun _ _ e=>e)).trans k3 (fun _ _ e=>e)⟩
theorem medadj_spec {w:World} {g off cap a s n:Nat} {d:Array Int} (h:Zj w g off d) (hs:BoxI w s n) (hsg:s≠g) (ha:1<=a) (hb:a+1<d.size) (hn:n<=900) (hsz:d.size<=1099511627776) :
  Calls Tryz.prog 231 #[.slice (some ⟨g,off,none⟩) d.size cap,.int .i64 a,.pointer (some ⟨s,0,none⟩)] w fun e w' =>
   e=.returned (.int .i64 (medianAdjacent ltInt d a n).1)/\BoxI w' s (medianAdjacent ltInt d a n).2/\Zj w' g off d/\Keep (·=s) w w':=by
 have q:=median_spec (cap:=cap) (a:=a - 1) (b:=a) (c:=a+1) h hs hsg (by omega) (by omega) hb hn hsz
 have e1:((a - 1:Nat):Int)=(a:Int) - 1:=by omega
 have e2:((a+1:Nat):Int)=(a:Int)+1:=by omega
 rw [e1,e2] at q
 unfold medianAdjacent
 clear e1 e2 h hs
 go_enter Tryz.func231,Tryz.ntmps231
 go_wp2_with (go_at_call 232;refine q.mono ?_;rintro e w1 ⟨rfl,hs1,h1,k1⟩)
 go_ret
 exact ⟨rfl,hs1,h1,k1⟩
theorem BoxI.new (w:World):BoxI (w.alloc (.cells #[.int .i64 0] 3)) w.heap.size 0:=Qy w _
theorem Zj.lt {w:World} {g off:Nat} {d:Array Int} (h:Zj w g off d):g<w.heap.size:=by
 obtain ⟨cs,h1,_⟩:=h
 exact Qt h1
theorem piv_spec {w:World} {g off cap a b:Nat} {d:Array Int} (h:Zj w g off d) (hab:12<b-a) (hb:b<=d.size) (hsz:d.size<=1099511627776) :
  Calls Tryz.prog 220 #[.slice (some ⟨g,off,none⟩) d.size cap,.int .i64 a,.int .i64 b] w fun e w' =>
   e=.returned (.tuple #[.int .i64 (choosePivot ltInt d a b).1,.int .i64 (hintCode (choosePivot ltInt d a b).2)])/\Zj w' g off d/\Keep No w w':=by
 obtain ⟨l,hl⟩:∃ l:Nat,b-a=l:=⟨_,rfl⟩
 obtain ⟨q,hq⟩:∃ q:Nat,l / 4=q:=⟨_,rfl⟩
 have e0:(b:Int) - (a:Int)=(l:Int):=by omega
 have e1:(l:Int).tdiv 4=(q:Int):=by rw [<- hq];rfl
 have hl8:(8:Int)<=(l:Int):=by omega
 have hli:(l:Int)<=1099511627776:=by omega
 have hqi:(q:Int)<=1099511627776:=by omega
 have hai:(a:Int)<=1099511627776:=by omega
 have kA:Keep No w (w.alloc (.cells #[.int .i64 0] 3)):=(Keep.refl _ _).alloc _
 have hgs:w.heap.size≠g:=by have:=h.lt;omega
 have h1:=h.keep kA (fun e=>e)
 have hbx:=BoxI.new w
 have hraw:∀ r:Nat × Nat,rawPivot ltInt d a b=r->choosePivot ltInt d a b=(r.1,hintOf r.2):=fun r hr=>by rw [choosePivot_eq,hr]
 by_cases h50:50<=l
 ·have h50i:(50:Int)<=(l:Int):=by omega
  have m1:=medadj_spec (cap:=cap) (a:=a+q) (n:=0) h1 hbx hgs (by omega) (by omega) (by omega) hsz
  have c1:=medianAdjacent_mem ltInt d (a+q) 0
  have n1:=medianAdjacent_count ltInt d (a+q) 0
  have hr:rawPivot ltInt d a b=median ltInt d (medianAdjacent ltInt d (a+q) 0).1 (medianAdjacent ltInt d (a+q*2) (medianAdjacent ltInt d (a+q) 0).2).1
    (medianAdjacent ltInt d (a+q*3) (medianAdjacent ltInt d (a+q*2) (medianAdjacent ltInt d (a+q) 0).2).2).1 (medianAdjacent ltInt d (a+q*3) (medianAdjacent ltInt d (a+q*2) (medianAdjacent ltInt d (a+q) 0).2).2).2:=by
   unfold rawPivot
   rw [hl,hq,if_pos (by omega),if_pos h50,Nat.mul_one]
  generalize medianAdjacent ltInt d (a+q) 0=r1 at *
  have m2:=fun (w':World) (h:Zj w' g off d) (hs:BoxI w' w.heap.size r1.2)=>medadj_spec (cap:=cap) (a:=a+q*2) (n:=r1.2) h hs hgs (by omega) (by omega) (by omega) hsz
  have c2:=medianAdjacent_mem ltInt d (a+q*2) r1.2
  have n2:=medianAdjacent_count ltInt d (a+q*2) r1.2
  generalize medianAdjacent ltInt d (a+q*2) r1.2=r2 at *
  have m3:=fun (w':World) (h:Zj w' g off d) (hs:BoxI w' w.heap.size r2.2)=>medadj_spec (cap:=cap) (a:=a+q*3) (n:=r2.2) h hs hgs (by omega) (by omega) (by omega) hsz
  have c3:=medianAdjacent_mem ltInt d (a+q*3) r2.2
  have n3:=medianAdjacent_count ltInt d (a+q*3) r2.2
  generalize medianAdjacent ltInt d (a+q*3) r2.2=r3 at *
  have m4:=fun (w':World) (h:Zj w' g off d) (hs:BoxI w' w.heap.size r3.2)=>median_spec (cap:=cap) (a:=r1.1) (b:=r2.1) (c:=r3.1) (n:=r3.2) h hs hgs (by omega) (by omega) (by omega) (by omega) hsz
  have hch:=hraw _ hr
  generalize median ltInt d r1.1 r2.1 r3.1 r3.2=r4 at *
  have H:=Lib.hid (A6 m1 m2 m3 m4 hch kA)
  clear m1 m2 m3 m4 hch kA h h1 hbx hraw hr c1 c2 c3 n1 n2 n3 hl hq hab hb
  go_enter Tryz.func220,Tryz.ntmps220
  go_wp2_with fail
  refine H.out.1.mono ?_
  rintro e w1 ⟨rfl,b1,g1,k1⟩
  go_wp2_with fail
  refine (H.out.2.1 _ g1 b1).mono ?_
  rintro e w2 ⟨rfl,b2,g2,k2⟩
  go_wp2_with fail
  refine (H.out.2.2.1 _ g2 b2).mono ?_
  rintro e w3 ⟨rfl,b3,g3,k3⟩
  go_wp2_with fail
  refine (H.out.2.2.2.1 _ g3 b3).mono ?_
  rintro e w4 ⟨rfl,b4,g4,k4⟩
  have z:=Qq b4 0
  simp at z
  have hK:Keep No w w4:=H.out.2.2.2.2.2.absorb (((k1.trans k2 (fun _ _ e=>e)).trans k3 (fun _ _ e=>e)).trans k4 (fun _ _ e=>e)) (fun b e=>by have e:b=w.heap.size:=e;omega)
  clear b1 b2 b3 g1 g2 g3 k1 k2 k3 k4 b4
  by_cases hz:r4.2=0
  ·have hzi:(r4.2:Int)=0:=by omega
   rw [hzi] at z
   have H2:=Lib.hid hz
   clear hz hzi
   go_wp2
   go_ret2
   rw [H.out.2.2.2.2.1]
   simp only []
   rw [H2.out]
   exact ⟨rfl,g4,hK⟩
  ·by_cases hz2:r4.2=12
   ·have hzi:(r4.2:Int)=12:=by omega
    rw [hzi] at z
    have H2:=Lib.hid hz2
    clear hz hz2 hzi
    go_wp2
    go_ret2
    rw [H.out.2.2.2.2.1]
    simp only []
    rw [H2.out]
    exact ⟨rfl,g4,hK⟩
   ·have hzi:((r4.2:Int)==0)=false:=by simp;omega
    have hzi2:((r4.2:Int)==12)=false:=by simp;omega
    have H2:=Lib.hid (A2 hz hz2)
    clear hz hz2
    go_wp2
    go_ret2
    rw [H.out.2.2.2.2.1]
    have e:hintOf r4.2=.unknown:=by unfold hintOf;rw [if_neg H2.out.1,if_neg H2.out.2]
    simp only [e]
    exact ⟨rfl,g4,hK⟩
 ·have h50i:¬(50:Int)<=(l:Int):=by omega
  have m4:=median_spec (cap:=cap) (a:=a+q) (b:=a+q*2) (c:=a+q*3) (n:=0) h1 hbx hgs (by omega) (by omega) (by omega) (by omega) hsz
  have hr:rawPivot ltInt d a b=median ltInt d (a+q) (a+q*2) (a+q*3) 0:=by
   unfold rawPivot
   rw [hl,hq,if_pos (by omega),if_neg h50,Nat.mul_one]
  have hch:=hraw _ hr
  generalize median ltInt d (a+q) (a+q*2) (a+q*3) 0=r4 at *
  have H:=Lib.hid (A3 m4 hch kA)
  clear m4 hch kA h h1 hbx hraw hr hl hq hab hb
  go_enter Tryz.func220,Tryz.ntmps220
  go_wp2_with fail
  refine H.out.1.mono ?_
  rintro e w4 ⟨rfl,b4,g4,k4⟩
  have z:=Qq b4 0
  simp at z
  have hK:Keep No w w4:=H.out.2.2.absorb k4 (fun b e=>by have e:b=w.heap.size:=e;omega)
  clear k4 b4
  by_cases hz:r4.2=0
  ·have hzi:(r4.2:Int)=0:=by omega
   rw [hzi] at z
   have H2:=Lib.hid hz
   clear hz hzi
   go_wp2
   go_ret2
   rw [H.out.2.1]
   simp only []
   rw [H2.out]
   exact ⟨rfl,g4,hK⟩
  ·by_cases hz2:r4.2=12
   ·have hzi:(r4.2:Int)=12:=by omega
    rw [hzi] at z
    have H2:=Lib.hid hz2
    clear hz hz2 hzi
    go_wp2
    go_ret2
    rw [H.out.2.1]
    simp only []
    rw [H2.out]
    exact ⟨rfl,g4,hK⟩
   ·have hzi:((r4.2:Int)==0)=false:=by simp;omega
    have hzi2:((r4.2:Int)==12)=false:=by simp;omega
    have H2:=Lib.hid (A2 hz hz2)
    clear hz hz2
    go_wp2
    go_ret2
    rw [H.out.2.1]
    have e:hintOf r4.2=.unknown:=by unfold hintOf;rw [if_neg H2.out.1,if_neg H2.out.2]
    simp only [e]
    exact ⟨rfl,g4,hK⟩
theorem scanUp_step {p:Int->Bool} {d:Array Int} {j i:Nat} (h:i<=j) (hp:p d[i]! = true):scanUp p d j i=scanUp p d j (i+1):=by
 conv=>lhs;rw [scanUp]
 simp [h,hp]
theorem Ka {p:Int->Bool} {d:Array Int} {j i:Nat} (h:¬i<=j\/p d[i]! = false):scanUp p d j i=i:=by
 rw [scanUp]
 rcases h with h | h <;> simp [h]
theorem scanDown_step {p:Int->Bool} {d:Array Int} {i j:Nat} (h:i<=j) (h0:0<j) (hp:p d[j]! = true):scanDown p d i j=scanDown p d i (j - 1):=by
 obtain ⟨k,rfl⟩:∃ k,j=k+1:=⟨j - 1,by omega⟩
 conv=>lhs;rw [scanDown]
 simp [h,hp]
theorem Vb {p:Int->Bool} {d:Array Int} {i j:Nat} (h:¬i<=j\/p d[j]! = false):scanDown p d i j=j:=by
 cases j with
 | zero=>rfl
 | succ k =>
  rw [scanDown]
  rcases h with h | h <;> simp [h]
theorem peq_spec {w:World} {g off cap a b pivot:Nat} {d:Array Int} (h:Zj w g off d) (hp1:a<=pivot) (hp2:pivot<b) (hb:b<=d.size) (hsz:d.size<=1099511627776) :
  Calls Tryz.prog 224 #[.slice (some ⟨g,off,none⟩) d.size cap,.int .i64 a,.int .i64 b,.int .i64 pivot] w fun e w' =>
   e=.returned (.int .i64 (partitionEqual ltInt d a b pivot).1)/\Zj w' g off (partitionEqual ltInt d a b pivot).2/\Keep (·=g) w w':=by
 have hd1:(swp d a pivot).size=d.size:=by rw [size_swp]
 unfold partitionEqual
 obtain ⟨d1,hdd⟩:∃ d1,d1=swp d a pivot:=⟨_,rfl⟩
 rw [<- hdd] at hd1 ⊢
 have HD:=Lib.hid hdd
 clear hdd
 have hpi:(pivot:Int)<=1099511627776:=by omega
 have hbi:(b:Int)<=1099511627776:=by omega
 have hai:(a:Int)<=1099511627776:=by omega
 go_enter Tryz.func224,Tryz.ntmps224
 go_upto_region 1 with fail
 go_cut [] (fun wx=>Zj wx g off d1/\Keep (·=g) w wx)
 case first =>
  obtain ⟨G,hG⟩:∃ G:Nat->Int,∀ t,G t=d[t]!:=⟨fun t=>d[t]!,fun _=>rfl⟩
  have hcw:∀ t,t<d.size->w.cell? ⟨g,off+t,none⟩=some (.int .u64 (G t)):=fun t ht=>by rw [hG];exact h.cell ht
  have hfw:∀ t,t<d.size->w.frozen? ⟨g,off+t,none⟩=false:=fun t _=>h.frozen t
  have hsw:=(h.keep ((Keep.refl No w).drewN 1) (fun e=>e)).swap (i:=a) (j:=pivot) (by omega) (by omega)
  rw [<- hG,<- hG,<- HD.out] at hsw
  have HS:=Lib.hid hsw
  clear hsw h hG
  by_cases hap:a=pivot
  ·subst hap
   go_region
   all_goals go_wp2
   go_meet
   exact ⟨HS.out.1,((Keep.refl _ _).drewN 1).trans HS.out.2 (fun _ _ e=>e)⟩
  ·have hap':a<pivot:=by omega
   go_region
   all_goals go_wp2
   go_meet
   exact ⟨HS.out.1,((Keep.refl _ _).drewN 1).trans HS.out.2 (fun _ _ e=>e)⟩
 case rest =>
  obtain ⟨hR0,hK0⟩:=hcut
  generalize wc=w1 at *
  go_wp2
  go_loopw [9,10] (fun vi vj wr=>∃ (i j:Nat) (dj:Array Int),vi=.int .i64 i/\vj=.int .i64 j/\a<i/\i<=j+1/\j<b/\dj.size=d.size/\Zj wr g off dj/\Keep (·=g) w wr/\partEqLoop ltInt a i j dj=partEqLoop ltInt a (a+1) (b - 1) d1) (fun vi vj _=>(intOf vj+1-intOf vi).toNat)
  case atStart=>exact ⟨a+1,b - 1,d1,by go_num,by congr 1;omega,by omega,by omega,by omega,hd1,hR0,hK0,rfl⟩
  case round =>
   clear hR0 hK0 h
   obtain ⟨i,j,dj,rfl,rfl,hai',hij,hjb,hsj,hR,hK,hI⟩:=hrel
   obtain ⟨G,hG⟩:∃ G:Nat->Int,∀ t,G t=dj[t]!:=⟨fun t=>dj[t]!,fun _=>rfl⟩
   obtain ⟨i2,hi2⟩:∃ i2,i2=scanUp (fun x=>!ltInt dj[a]! x) dj j i:=⟨_,rfl⟩
   obtain ⟨j2,hj2⟩:∃ j2,j2=scanDown (fun x=>ltInt dj[a]! x) dj i2 j:=⟨_,rfl⟩
   have hs1:=scanUp_spec (fun x=>!ltInt dj[a]! x) dj j _ i rfl
   have hs2:=scanDown_spec (fun x=>ltInt dj[a]! x) dj i2 j
   have hL:=partEqLoop_eq ltInt a i j dj
   rw [<- hi2] at hs1 hL
   rw [<- hj2] at hs2 hL
   have b1:i<=i2:=hs1.1
   have b2:i2<=j+1:=hs1.2.1 hij
   have b3:j2<=j:=hs2.1
   have b4:i2<=j2+1:=hs2.2.1 b2
   have b5:¬j2<i2->i2<j2:=fun hn=>by
    have f1:=hs1.2.2.2 (by omega)
    have f2:=hs2.2.2.2 (by omega) (by omega)
    rcases Nat.lt_or_ge i2 j2 with h | h
    ·exact h
    ·have e:i2=j2:=by omega
     simp only [e] at f1
     simp only [f2] at f1
     cases f1
   have HI:=Lib.hid (A7 hI hG hR hK hL hi2 hj2)
   clear hI hG hR hK hL hi2 hj2 hs1 hs2
   go_upto_block 2 with fail
   go_cut [9] (fun v wx=>v=.int .i64 i2/\Keep No wr wx)
   case first =>
    go_wp2
    go_loopw [9] (fun vi wr2=>∃ (k:Nat),vi=.int .i64 k/\i<=k/\k<=j+1/\Keep No wr wr2/\scanUp (fun x=>!ltInt dj[a]! x) dj j k=i2) (fun vi _=>(((j:Int)+1)-intOf vi).toNat)
    case atStart=>exact ⟨i,rfl,Nat.le_refl _,hij,Keep.refl _ _,HI.out.2.2.2.2.2.1.symm⟩
    case round =>
     obtain ⟨k,rfl,hik,hkj,kr,hS⟩:=hrel
     have hcw:∀ t,t<d.size->wr.cell? ⟨g,off+t,none⟩=some (.int .u64 (G t)):=fun t ht=>by rw [HI.out.2.1];exact (HI.out.2.2.1.keep kr (fun e=>e)).cell (by omega)
     have HS:=Lib.hid (A2 hS kr)
     clear hS kr
     by_cases hkj':k<=j
     ·have hki:(k:Int)<=(j:Int):=by omega
      have hka:a<d.size:=by omega
      have hkd:k<d.size:=by omega
      go_wp2
      go_quiet (first | (go_at_call 223;refine Calls.quiet_of_same (Zw _ _ _)))
      go_wp2
      ·have hl0:(!ltInt (G a) (G k))=true:=by assumption
       go_roundw
       case rel=>exact ⟨k+1,by go_num,by omega,by omega,HS.out.2.drewN _,by rw [<- scanUp_step hkj' (by rw [<- HI.out.2.1,<- HI.out.2.1];exact hl0)];exact HS.out.1⟩
       case measure=>simp [intOf];omega
      ·have hl0:(!ltInt (G a) (G k))=false:=by assumption
       go_meet
       exact ⟨by rw [<- HS.out.1,Ka (Or.inr (by rw [<- HI.out.2.1,<- HI.out.2.1];exact hl0))],HS.out.2.drewN _⟩
     ·have hki:¬(k:Int)<=(j:Int):=by omega
      go_wp2
      go_quiet (first | (go_at_call 223;refine Calls.quiet_of_same (Zw _ _ _)))
      go_wp2
      go_meet
      exact ⟨by rw [<- HS.out.1,Ka (Or.inl hkj')],HS.out.2.drewN _⟩
   case rest =>
    obtain ⟨rfl,kr⟩:=hcut
    generalize wc=w2 at *
    go_upto_block 4 with fail
    go_cut [10] (fun v wx=>v=.int .i64 j2/\Keep No wr wx)
    case first =>
     go_wp2
     go_loopw [10] (fun vi wr2=>∃ (k:Nat),vi=.int .i64 k/\k<=j/\i2<=k+1/\Keep No wr wr2/\scanDown (fun x=>ltInt dj[a]! x) dj i2 k=j2) (fun vi _=>(intOf vi).toNat)
     case atStart=>exact ⟨j,rfl,Nat.le_refl _,b2,kr,HI.out.2.2.2.2.2.2.symm⟩
     case round =>
      clear kr
      obtain ⟨k,rfl,hkj,hik,kr,hS⟩:=hrel
      have hcw:∀ t,t<d.size->wr.cell? ⟨g,off+t,none⟩=some (.int .u64 (G t)):=fun t ht=>by rw [HI.out.2.1];exact (HI.out.2.2.1.keep kr (fun e=>e)).cell (by omega)
      have HS:=Lib.hid (A2 hS kr)
      clear hS kr
      by_cases hkj':i2<=k
      ·have hki:(i2:Int)<=(k:Int):=by omega
       have hka:a<d.size:=by omega
       have hkd:k<d.size:=by omega
       have hk0:0<k:=by omega
       go_wp2
       go_quiet (first | (go_at_call 223;refine Calls.quiet_of_same (Zw _ _ _)))
       go_wp2
       ·have hl0:ltInt (G a) (G k)=true:=by assumption
        go_roundw
        case rel=>exact ⟨k - 1,by congr 1;omega,by omega,by omega,HS.out.2.drewN _,by rw [<- scanDown_step hkj' hk0 (by rw [<- HI.out.2.1,<- HI.out.2.1];exact hl0)];exact HS.out.1⟩
        case measure=>simp [intOf];omega
       ·have hl0:ltInt (G a) (G k)=false:=by assumption
        go_meet
        exact ⟨by rw [<- HS.out.1,Vb (Or.inr (by rw [<- HI.out.2.1,<- HI.out.2.1];exact hl0))],HS.out.2.drewN _⟩
      ·have hki:¬(i2:Int)<=(k:Int):=by omega
       go_wp2
       go_quiet (first | (go_at_call 223;refine Calls.quiet_of_same (Zw _ _ _)))
       go_wp2
       go_meet
       exact ⟨by rw [<- HS.out.1,Vb (Or.inl hkj')],HS.out.2.drewN _⟩
    case rest =>
     clear kr
     obtain ⟨rfl,kr⟩:=hcut
     generalize wc=w3 at *
     have hR3:=HI.out.2.2.1.keep kr (fun e=>e)
     have hK3:=HI.out.2.2.2.1.trans kr (fun _ _ e=>e.elim)
     by_cases hgt:j2<i2
     ·have hgti:(j2:Int)<(i2:Int):=by omega
      have HL:=Lib.hid (A2 hR3 hK3)
      clear hR3 hK3 kr
      go_wp2
      go_ret
      rw [<- HI.out.1,HI.out.2.2.2.2.1,if_pos hgt]
      exact ⟨rfl,HL.out.1,HL.out.2⟩
     ·have hgti:¬(j2:Int)<(i2:Int):=by omega
      have hij2':=b5 hgt
      have hcw:∀ t,t<d.size->w3.cell? ⟨g,off+t,none⟩=some (.int .u64 (G t)):=fun t ht=>by rw [HI.out.2.1];exact hR3.cell (by omega)
      have hfw:∀ t,t<d.size->w3.frozen? ⟨g,off+t,none⟩=false:=fun t _=>hR3.frozen t
      have hsw:=(hR3.keep ((Keep.refl No w3).drewN 1) (fun e=>e)).swap (i:=i2) (j:=j2) (by omega) (by omega)
      rw [<- HI.out.2.1,<- HI.out.2.1] at hsw
      have hdone:∀ wx,Zj wx g off (swp dj i2 j2)->Keep (·=g) w wx->∃ (i' j':Nat) (dj':Array Int),Value.int .i64 ((i2:Int)+1)=.int .i64 i'/\Value.int .i64 ((j2:Int) - 1)=.int .i64 j'/\a<i'/\i'<=j'+1/\j'<b/\dj'.size=d.size/\Zj wx g off dj'/\Keep (·=g) w wx/\partEqLoop ltInt a i' j' dj'=partEqLoop ltInt a (a+1) (b - 1) d1:=fun wx h1 h2 =>
       ⟨i2+1,j2 - 1,swp dj i2 j2,by go_num,by congr 1;omega,by omega,by omega,by omega,by rw [size_swp];exact hsj,h1,h2,by rw [<- HI.out.1,HI.out.2.2.2.2.1,if_neg (by omega)]⟩
      have HL:=Lib.hid (A3 hsw (hK3.drewN 1) hdone)
      clear hsw hdone hR3 hK3 kr b5
      go_wp2
      go_region
      all_goals go_wp2
      go_roundw
      case rel=>exact HL.out.2.2 _ HL.out.1.1 (HL.out.2.1.trans HL.out.1.2 (fun _ _ e=>e))
      case measure=>simp [intOf];omega
theorem bitsLen_256 {n:Nat} (h:256<=n):bitsLen n=8+bitsLen (n / 256):=by
 have p:∀ k:Nat,2 ^ (8+k)=256*2 ^ k:=fun k=>by rw [Nat.pow_add]
 have h1:0<n / 256:=by omega
 apply Nat.le_antisymm
 ·have:=lt_two_pow_bitsLen (n / 256)
  rw [bitsLen_le_iff,p]
  omega
 ·have h3:¬bitsLen n<8+bitsLen (n / 256):=fun hlt=>by
   obtain ⟨k,hk⟩:∃ k,bitsLen (n / 256)=k+1:=by
    cases hb:bitsLen (n / 256) with
    | zero=>have:=(bitsLen_le_iff (n / 256) 0).1 (by omega);simp at this;omega
    | succ k=>exact ⟨k,rfl⟩
   have h4:bitsLen n<=8+k:=by omega
   rw [bitsLen_le_iff,p] at h4
   have h5:bitsLen (n / 256)<=k:=by rw [bitsLen_le_iff];omega
   omega
  omega
theorem len8_bits:∀ n:Nat,n<256->Lib.len8 n=bitsLen n/\bitsLen n<=8:=by
 have h:∀ n:Fin 256,Lib.len8 (n.val:Int)=bitsLen n.val/\bitsLen n.val<=8:=by decide +kernel
 exact fun n hn=>h ⟨n,hn⟩
theorem tab_at (y:Int) (h0:0<=y) (h1:y<256) (h:y.toNat<Lib.len8tab.size):((Lib.len8tab[y.toNat]'h).toNat:Int)=bitsLen y.toNat/\bitsLen y.toNat<=8:=by
 have:=len8_bits y.toNat (by omega)
 refine ⟨?_,this.2⟩
 rw [<- this.1]
 unfold Lib.len8
 have e:((y.toNat:Nat):Int).toNat=y.toNat:=Int.toNat_natCast _
 rw [e,getElem?_pos Lib.len8tab y.toNat h]
 rfl
theorem wrap_small (a:Int) (h0:0<=a) (h1:a<=1000):wrap64 a=a:=by unfold wrap64;omega
theorem fold_tab:({ data:=((([0,1,2,2,3,3,3,3,4,4,4,4,4,4,4,4,5,5,5,5,5,5,5,5,5,5,5,5,5,5,5,5,6,6,6,6,6,6,6,6,6,6,6,6,6,6,6,6,6,6,6,6,6,6,6,6,6,6,6,6,6,6,6,6]:List UInt8).append [7,7,7,7,7,7,7,7,7,7,7,7,7,7,7,7,7,7,7,7,7,7,7,7,7,7,7,7,7,7,7,7,7,7,7,7,7,7,7,7,7,7,7,7,7,7,7,7,7,7,7,7,7,7,7,7,7,7,7,7,7,7,7,7]).append (([8,8,8,8,8,8,8,8,8,8,8,8,8,8,8,8,8,8,8,8,8,8,8,8,8,8,8,8,8,8,8,8,8,8,8,8,8,8,8,8,8,8,8,8,8,8,8,8,8,8,8,8,8,8,8,8,8,8,8,8,8,8,8,8]:List UInt8).append [8,8,8,8,8,8,8,8,8,8,8,8,8,8,8,8,8,8,8,8,8,8,8,8,8,8,8,8,8,8,8,8,8,8,8,8,8,8,8,8,8,8,8,8,8,8,8,8,8,8,8,8,8,8,8,8,8,8,8,8,8,8,8,8])).toArray }:ByteArray)=Lib.len8tab:=by decide +kernel
theorem len64_spec (x:Int) (h0:0<=x) (hx:x<65536) (w:World):Calls Tryz.prog 227 #[.int .u64 x] w fun e w'=>e=.returned (.int .i64 (bitsLen x.toNat))/\w'=w:=by
 have HX:=Lib.hid (A2 h0 hx)
 go_enter Tryz.func227,Tryz.ntmps227
 rw [fold_tab]
 have hy:x<4294967296:=by omega
 by_cases h:x<256
 ·go_wp2
  go_ret
  refine ⟨congrArg Ending.returned (congrArg (Value.int IntKind.i64) ?_),rfl⟩
  have ht:=tab_at x h0 h (by rw [Lib.len8tab_size];omega)
  rw [ht.1,wrap_small (bitsLen x.toNat:Int) (by omega) (by omega),wrap_small _ (by omega) (by omega)]
 ·have hq:x / 256<(Lib.len8tab.size:Int):=by rw [Lib.len8tab_size];omega
  have hq2:(x / 256).toNat<Lib.len8tab.size:=by rw [Lib.len8tab_size];omega
  have h5:0<=x / 256:=by omega
  have h6:x / 256<256:=by omega
  go_wp2
  go_ret
  refine ⟨congrArg Ending.returned (congrArg (Value.int IntKind.i64) ?_),rfl⟩
  have ht:=tab_at (x / 256) h5 h6 hq2
  have hb:=bitsLen_256 (n:=x.toNat) (by omega)
  rw [show x.toNat / 256=(x / 256).toNat by omega] at hb
  rw [ht.1,wrap_small (bitsLen (x / 256).toNat:Int) (by omega) (by omega),wrap_small _ (by omega) (by omega),hb]
  omega
theorem len_spec (x:Int) (h0:0<=x) (hx:x<65536) (w:World):Calls Tryz.prog 212 #[.int .u64 x] w fun e w'=>e=.returned (.int .i64 (bitsLen x.toNat))/\w'=w:=by
 go_enter Tryz.func212,Tryz.ntmps212
 go_wp2_with (go_at_call 227;refine (len64_spec x h0 hx _).mono ?_;rintro e w' ⟨rfl,rfl⟩)
 go_ret
 exact ⟨rfl,rfl⟩
theorem wrap_pow (k:Nat) (hk:k<=62):IntKind.u64.wrap ((2:Int) ^ k)=((1 <<< k:Nat):Int):=by
 have h:(2:Nat) ^ k<=2 ^ 62:=Nat.pow_le_pow_right (by decide) hk
 rw [IntKind.wrap_u64,Nat.one_shiftLeft,show ((2:Int) ^ k)=((2 ^ k:Nat):Int) by push_cast;rfl]
 generalize (2:Nat) ^ k=p at h
 omega
theorem npow2_spec (n:Nat) (hn:n<65536) (w:World):Calls Tryz.prog 229 #[.int .i64 n] w fun e w'=>e=.returned (.int .u64 ((1 <<< bitsLen n:Nat):Int))/\w'=w:=by
 have hl:=fun w=>len_spec (n:Int) (by omega) (by omega) w
 simp only [Int.toNat_natCast] at hl
 have hk:bitsLen n<=62:=by rw [bitsLen_le_iff];omega
 have hp:=wrap_pow (bitsLen n) hk
 have hni:(n:Int)<65536:=by omega
 go_enter Tryz.func229,Tryz.ntmps229
 go_wp2_with (go_at_call 212;refine (hl _).mono ?_;rintro e w' ⟨rfl,rfl⟩)
 go_ret
 exact ⟨rfl,rfl⟩
end Go.Proofs.YtfdmbomlkpkegaaGreat
