/- Lemmas for ReceiverNil. -/
import Derived.Test.YtfdmbomlkpkegaaGreatS17
import Derived.Sort.Row
import Derived.Sort.LotA
import Derived.Sort.LotB
set_option maxRecDepth 100000
set_option maxHeartbeats 8000000
set_option linter.all false
namespace Go.Proofs.YtfdmbomlkpkegaaGreat
open Go Go.RowKit Go.Sort
theorem scan_facts {d:Array Int} {a i j i2 j2:Nat} (hi2:i2=scanUp (fun x=>ltInt x d[a]!) d j i) (hj2:j2=scanDown (fun x=>!ltInt x d[a]!) d i2 j) (hij:i<=j+1) (hi:0<i) :
  i<=i2/\i2<=j+1/\j2<=j/\i2<=j2+1/\(¬j2<i2->i2<j2):=by
 have hs1:=scanUp_spec (fun x=>ltInt x d[a]!) d j _ i rfl
 have hs2:=scanDown_spec (fun x=>!ltInt x d[a]!) d i2 j
 rw [<- hi2] at hs1
 rw [<- hj2] at hs2
 have b2:=hs1.2.1 hij
 refine ⟨hs1.1,b2,hs2.1,hs2.2.1 b2,fun hn=>?_⟩
 have h1:=hs1.1
 have f1:=hs1.2.2.2 (by have:=hs2.1;omega)
 have f2:=hs2.2.2.2 (by omega) (by omega)
 rcases Nat.lt_or_ge i2 j2 with h | h
 ·exact h
 ·have e:i2=j2:=by omega
  simp only [e] at f1
  simp only [f1] at f2
  cases f2
theorem Zj.swapD {w:World} {g off:Nat} {d:Array Int} (h:Zj w g off d) {i j:Nat} (hi:i<d.size) (hj:j<d.size) :
  Zj (((w.drewN 1).setCell ⟨g,off+i,none⟩ (.int .u64 d[j]!)).setCell ⟨g,off+j,none⟩ (.int .u64 d[i]!)) g off (swp d i j) /\
  Keep (·=g) w (((w.drewN 1).setCell ⟨g,off+i,none⟩ (.int .u64 d[j]!)).setCell ⟨g,off+j,none⟩ (.int .u64 d[i]!)):=by
 have:=(h.keep ((Keep.refl No w).drewN 1) (fun e=>e)).swap hi hj
 exact ⟨this.1,((Keep.refl _ _).drewN 1).trans this.2 (fun _ _ e=>e)⟩
theorem part_spec {w:World} {g off cap a b pivot:Nat} {d:Array Int} (h:Zj w g off d) (hp1:a<=pivot) (hp2:pivot<b) (hb:b<=d.size) (hsz:d.size<=1099511627776) :
  Calls Tryz.prog 225 #[.slice (some ⟨g,off,none⟩) d.size cap,.int .i64 a,.int .i64 b,.int .i64 pivot] w fun e w' =>
   e=.returned (.tuple #[.int .i64 (partition ltInt d a b pivot).1,.bool (partition ltInt d a b pivot).2.1])/\Zj w' g off (partition ltInt d a b pivot).2.2/\Keep (·=g) w w':=by
 obtain ⟨P,hP⟩:∃ P,P=partition ltInt d a b pivot:=⟨_,rfl⟩
 rw [<- hP]
 unfold partition at hP
 simp only [] at hP
 have hd1:(swp d a pivot).size=d.size:=by rw [size_swp]
 obtain ⟨dj,hdd⟩:∃ d1,d1=swp d a pivot:=⟨_,rfl⟩
 rw [<- hdd] at hd1 hP
 have hpi:(pivot:Int)<=1099511627776:=by omega
 have hbi:(b:Int)<=1099511627776:=by omega
 have hai:(a:Int)<=1099511627776:=by omega
 obtain ⟨jb,hjb⟩:∃ jb,jb=b - 1:=⟨_,rfl⟩
 rw [<- hjb] at hP
 have hjbi:(b:Int) - 1=(jb:Int):=by omega
 obtain ⟨i2,hi2⟩:∃ i2,i2=scanUp (fun x=>ltInt x dj[a]!) dj jb (a+1):=⟨_,rfl⟩
 rw [<- hi2] at hP
 obtain ⟨j2,hj2⟩:∃ j2,j2=scanDown (fun x=>!ltInt x dj[a]!) dj i2 jb:=⟨_,rfl⟩
 rw [<- hj2] at hP
 have hij:a+1<=jb+1:=by omega
 obtain ⟨b1,b2,b3,b4,b5⟩:=scan_facts hi2 hj2 hij (by omega)
 have hjs:jb<d.size:=by omega
 have HD:=Lib.hid (A6 hdd hP hi2 hj2 hjb b5)
 clear hdd hP hi2 hj2 hjb b5
 go_enter Tryz.func225,Tryz.ntmps225
 go_upto_region 1 with fail
 go_cut [] (fun wx=>Zj wx g off dj/\Keep (·=g) w wx)
 case first =>
  obtain ⟨G,hG⟩:∃ G:Nat->Int,∀ t,G t=d[t]!:=⟨fun t=>d[t]!,fun _=>rfl⟩
  have hcw:∀ t,t<d.size->w.cell? ⟨g,off+t,none⟩=some (.int .u64 (G t)):=fun t ht=>by rw [hG];exact h.cell ht
  have hfw:∀ t,t<d.size->w.frozen? ⟨g,off+t,none⟩=false:=fun t _=>h.frozen t
  have hsw:=h.swapD (i:=a) (j:=pivot) (by omega) (by omega)
  rw [<- hG,<- hG,<- HD.out.1] at hsw
  have HS:=Lib.hid hsw
  clear hsw h hG
  by_cases hap:a=pivot
  ·subst hap
   go_region
   all_goals go_wp2
   go_meet
   exact HS.out
  ·have hap':a<pivot:=by omega
   go_region
   all_goals go_wp2
   go_meet
   exact HS.out
 case rest =>
  obtain ⟨hR0,hK0⟩:=hcut
  generalize wc=wr at *
  obtain ⟨G,hG⟩:∃ G:Nat->Int,∀ t,G t=dj[t]!:=⟨fun t=>dj[t]!,fun _=>rfl⟩
  have HI:=Lib.hid (A4 hG hR0 HD.out.2.2.1.symm.symm HD.out.2.2.2.1)
  have HK:=Lib.hid hK0
  clear hG hR0 hK0 h
  go_upto_block 0 with fail
  go_cut [10] (fun v wx=>v=.int .i64 i2/\Keep No wr wx)
  case first =>
   go_wp2
   go_loopw [10] (fun vi wr2=>∃ (k:Nat),vi=.int .i64 k/\(a+1)<=k/\k<=jb+1/\Keep No wr wr2/\scanUp (fun x=>ltInt x dj[a]!) dj jb k=i2) (fun vi _=>(((jb:Nat):Int)+1-intOf vi).toNat)
   case atStart=>exact ⟨(a+1),rfl,Nat.le_refl _,hij,Keep.refl _ _,HI.out.2.2.1.symm⟩
   case round =>
    obtain ⟨k,rfl,hik,hkj,kr,hS⟩:=hrel
    have hcw:∀ t,t<d.size->wr.cell? ⟨g,off+t,none⟩=some (.int .u64 (G t)):=fun t ht=>by rw [HI.out.1];exact (HI.out.2.1.keep kr (fun e=>e)).cell (by omega)
    have HS:=Lib.hid (A2 hS kr)
    clear hS kr
    by_cases hkj':k<=jb
    ·have hki:(k:Int)<=(jb:Nat):=by omega
     have hka:a<d.size:=by omega
     have hkd:k<d.size:=by omega
     go_wp2
     go_quiet (first | (go_at_call 223;refine Calls.quiet_of_same (Zw _ _ _)))
     go_wp2
     ·have hl0:ltInt (G k) (G a)=true:=by assumption
      go_roundw
      case rel=>exact ⟨k+1,by go_num,by omega,by omega,HS.out.2.drewN _,by rw [<- scanUp_step hkj' (by rw [<- HI.out.1,<- HI.out.1];exact hl0)];exact HS.out.1⟩
      case measure=>simp [intOf];omega
     ·have hl0:ltInt (G k) (G a)=false:=by assumption
      go_meet
      exact ⟨by rw [<- HS.out.1,Ka (Or.inr (by rw [<- HI.out.1,<- HI.out.1];exact hl0))],HS.out.2.drewN _⟩
    ·have hki:¬(k:Int)<=(jb:Nat):=by omega
     go_wp2
     go_quiet (first | (go_at_call 223;refine Calls.quiet_of_same (Zw _ _ _)))
     go_wp2
     go_meet
     exact ⟨by rw [<- HS.out.1,Ka (Or.inl hkj')],HS.out.2.drewN _⟩
  case rest =>
   obtain ⟨rfl,kr⟩:=hcut
   generalize wc=w2 at *
   go_upto_block 2 with fail
   go_cut [11] (fun v wx=>v=.int .i64 j2/\Keep No wr wx)
   case first =>
    go_wp2
    go_loopw [11] (fun vi wr2=>∃ (k:Nat),vi=.int .i64 k/\k<=jb/\i2<=k+1/\Keep No wr wr2/\scanDown (fun x=>!ltInt x dj[a]!) dj i2 k=j2) (fun vi _=>(intOf vi).toNat)
    case atStart=>exact ⟨jb,rfl,Nat.le_refl _,b2,kr,HI.out.2.2.2.symm⟩
    case round =>
     clear kr
     obtain ⟨k,rfl,hkj,hik,kr,hS⟩:=hrel
     have hcw:∀ t,t<d.size->wr.cell? ⟨g,off+t,none⟩=some (.int .u64 (G t)):=fun t ht=>by rw [HI.out.1];exact (HI.out.2.1.keep kr (fun e=>e)).cell (by omega)
     have HS:=Lib.hid (A2 hS kr)
     clear hS kr
     by_cases hkj':i2<=k
     ·have hki:(i2:Int)<=(k:Int):=by omega
      have hka:a<d.size:=by omega
      have hkd:k<d.size:=by omega
      have hk0:0<k:=by omega
      go_wp2
      go_quiet (first | (go_at_call 223;refine Calls.quiet_of_same (Zw _ _ _)))
      go_wp2
      ·have hl0:(!ltInt (G k) (G a))=true:=by assumption
       go_roundw
       case rel=>exact ⟨k - 1,by congr 1;omega,by omega,by omega,HS.out.2.drewN _,by rw [<- scanDown_step hkj' hk0 (by rw [<- HI.out.1,<- HI.out.1];exact hl0)];exact HS.out.1⟩
       case measure=>simp [intOf];omega
      ·have hl0:(!ltInt (G k) (G a))=false:=by assumption
       go_meet
       exact ⟨by rw [<- HS.out.1,Vb (Or.inr (by rw [<- HI.out.1,<- HI.out.1];exact hl0))],HS.out.2.drewN _⟩
     ·have hki:¬(i2:Int)<=(k:Int):=by omega
      go_wp2
      go_quiet (first | (go_at_call 223;refine Calls.quiet_of_same (Zw _ _ _)))
      go_wp2
      go_meet
      exact ⟨by rw [<- HS.out.1,Vb (Or.inl hkj')],HS.out.2.drewN _⟩
   case rest =>
    clear kr
    obtain ⟨rfl,kr⟩:=hcut
    generalize wc=w3 at *
    have hR3:=HI.out.2.1.keep kr (fun e=>e)
    have hK3:=HK.out.trans kr (fun _ _ e=>e.elim)
    have hcw:∀ t,t<d.size->w3.cell? ⟨g,off+t,none⟩=some (.int .u64 (G t)):=fun t ht=>by rw [HI.out.1];exact hR3.cell (by omega)
    have hfw:∀ t,t<d.size->w3.frozen? ⟨g,off+t,none⟩=false:=fun t _=>hR3.frozen t
    by_cases hgt:j2<i2
    ·have hgti:(j2:Int)<(i2:Int):=by omega
     have hsw:=hR3.swapD (i:=j2) (j:=a) (by omega) (by omega)
     rw [<- HI.out.1,<- HI.out.1] at hsw
     have hPP:P=(j2,true,swp dj j2 a):=by rw [HD.out.2.1,if_pos hgt]
     have HL:=Lib.hid (A3 hPP hsw hK3)
     clear hsw hR3 hK3 kr hPP
     by_cases hja:j2=a
     ·subst hja
      go_wp2
      go_region
      all_goals go_wp2
      go_ret2
      rw [HL.out.1]
      exact ⟨rfl,HL.out.2.1.1,HL.out.2.2.trans HL.out.2.1.2 (fun _ _ e=>e)⟩
     ·have hja':a<j2:=by omega
      go_wp2
      go_region
      all_goals go_wp2
      go_ret2
      rw [HL.out.1]
      exact ⟨rfl,HL.out.2.1.1,HL.out.2.2.trans HL.out.2.1.2 (fun _ _ e=>e)⟩
    ·have hgti:¬(j2:Int)<(i2:Int):=by omega
     have hlt2:=HD.out.2.2.2.2.2 hgt
     have hsw:=hR3.swapD (i:=i2) (j:=j2) (by omega) (by omega)
     rw [<- HI.out.1,<- HI.out.1] at hsw
     obtain ⟨R,hRR⟩:∃ R,R=partLoop ltInt a (i2+1) (j2 - 1) (swp dj i2 j2):=⟨_,rfl⟩
     have hPP:P=(R.1,false,swp R.2 R.1 a):=by rw [HD.out.2.1,if_neg hgt,<- hRR]
     have hsz2:(swp dj i2 j2).size=d.size:=by rw [size_swp];exact hd1
     have HL:=Lib.hid (A5 hPP hsw hK3 hRR hsz2)
     clear hsw hR3 hK3 kr hPP hRR hsz2
     go_upto_block 4 with (first | go_region | fail)
     go_cut [10,11] (fun _ vj wx=>∃ j:Nat,vj=.int .i64 j/\a<=j/\j<b/\R.1=j/\R.2.size=d.size/\Zj wx g off R.2/\Keep (·=g) w wx)
     case first =>
      have hstart:∃ (i j:Nat) (dj':Array Int),Value.int .i64 ((i2:Int)+1)=.int .i64 i/\Value.int .i64 ((j2:Int) - 1)=.int .i64 j/\a<i/\i<=j+1/\j<b/\dj'.size=d.size/\partLoop ltInt a i j dj'=R/\dj'=swp dj i2 j2 :=
       ⟨i2+1,j2 - 1,swp dj i2 j2,by go_num,by congr 1;omega,by omega,by omega,by omega,HL.out.2.2.2.2,HL.out.2.2.2.1.symm,rfl⟩
      obtain ⟨i0,j0,d0,hst1,hst2,hst3,hst4,hst5,hst6,hst7,hst8⟩:=hstart
      have hro:=HL.out.2.1.1
      have hko:=HL.out.2.2.1.trans HL.out.2.1.2 (fun _ _ e=>e)
      rw [<- hst8] at hro
      have HST:=Lib.hid (A5 hst1 hst2 hst7 hro hko)
      clear hst1 hst2 hst7 hst8 hro hko hlt2 hgti hgt
      go_wp2
      go_loopw [10,11] (fun vi vj wx=>∃ (i j:Nat) (dj:Array Int),vi=.int .i64 i/\vj=.int .i64 j/\a<i/\i<=j+1/\j<b/\dj.size=d.size/\Zj wx g off dj/\Keep (·=g) w wx/\partLoop ltInt a i j dj=R) (fun vi vj _=>(intOf vj+1-intOf vi).toNat)
      case atStart=>exact ⟨i0,j0,d0,HST.out.1,HST.out.2.1,hst3,hst4,hst5,hst6,HST.out.2.2.2.1,HST.out.2.2.2.2,HST.out.2.2.1⟩
      case round =>
       clear hcw hfw hst3 hst4 hst5 hst6 b1 b2 b3 b4 hij hjs
       obtain ⟨i,j,dj,rfl,rfl,hai',hij,hjb',hsj,hR,hK,hI⟩:=hrel
       obtain ⟨G,hG⟩:∃ G:Nat->Int,∀ t,G t=dj[t]!:=⟨fun t=>dj[t]!,fun _=>rfl⟩
       obtain ⟨i2,hi2⟩:∃ i2,i2=scanUp (fun x=>ltInt x dj[a]!) dj j i:=⟨_,rfl⟩
       obtain ⟨j2,hj2⟩:∃ j2,j2=scanDown (fun x=>!ltInt x dj[a]!) dj i2 j:=⟨_,rfl⟩
       obtain ⟨b1,b2,b3,b4,b5⟩:=scan_facts hi2 hj2 hij (by omega)
       have hLe:=partLoop_eq ltInt a i j dj
       rw [<- hi2,<- hj2,hI] at hLe
       have HI:=Lib.hid (A4 hG hR hi2 hj2)
       have HK:=Lib.hid (A3 hK hLe b5)
       clear hG hR hK hLe hi2 hj2 hI b5
       go_upto_block 6 with fail
       go_cut [10] (fun v wx=>v=.int .i64 i2/\Keep No wr wx)
       case first =>
        go_wp2
        go_loopw [10] (fun vi wr2=>∃ (k:Nat),vi=.int .i64 k/\i<=k/\k<=j+1/\Keep No wr wr2/\scanUp (fun x=>ltInt x dj[a]!) dj j k=i2) (fun vi _=>(((j:Nat):Int)+1-intOf vi).toNat)
        case atStart=>exact ⟨i,rfl,Nat.le_refl _,hij,Keep.refl _ _,HI.out.2.2.1.symm⟩
        case round =>
         obtain ⟨k,rfl,hik,hkj,kr,hS⟩:=hrel
         have hcw:∀ t,t<d.size->wr.cell? ⟨g,off+t,none⟩=some (.int .u64 (G t)):=fun t ht=>by rw [HI.out.1];exact (HI.out.2.1.keep kr (fun e=>e)).cell (by omega)
         have HS:=Lib.hid (A2 hS kr)
         clear hS kr
         by_cases hkj':k<=j
         ·have hki:(k:Int)<=(j:Nat):=by omega
          have hka:a<d.size:=by omega
          have hkd:k<d.size:=by omega
          go_wp2
          go_quiet (first | (go_at_call 223;refine Calls.quiet_of_same (Zw _ _ _)))
          go_wp2
          ·have hl0:ltInt (G k) (G a)=true:=by assumption
           go_roundw
           case rel=>exact ⟨k+1,by go_num,by omega,by omega,HS.out.2.drewN _,by rw [<- scanUp_step hkj' (by rw [<- HI.out.1,<- HI.out.1];exact hl0)];exact HS.out.1⟩
           case measure=>simp [intOf];omega
          ·have hl0:ltInt (G k) (G a)=false:=by assumption
           go_meet
           exact ⟨by rw [<- HS.out.1,Ka (Or.inr (by rw [<- HI.out.1,<- HI.out.1];exact hl0))],HS.out.2.drewN _⟩
         ·have hki:¬(k:Int)<=(j:Nat):=by omega
          go_wp2
          go_quiet (first | (go_at_call 223;refine Calls.quiet_of_same (Zw _ _ _)))
          go_wp2
          go_meet
          exact ⟨by rw [<- HS.out.1,Ka (Or.inl hkj')],HS.out.2.drewN _⟩
       case rest =>
        obtain ⟨rfl,kr⟩:=hcut
        generalize wc=w2 at *
        go_upto_block 8 with fail
        go_cut [11] (fun v wx=>v=.int .i64 j2/\Keep No wr wx)
        case first =>
         go_wp2
         go_loopw [11] (fun vi wr2=>∃ (k:Nat),vi=.int .i64 k/\k<=j/\i2<=k+1/\Keep No wr wr2/\scanDown (fun x=>!ltInt x dj[a]!) dj i2 k=j2) (fun vi _=>(intOf vi).toNat)
         case atStart=>exact ⟨j,rfl,Nat.le_refl _,b2,kr,HI.out.2.2.2.symm⟩
         case round =>
          clear kr
          obtain ⟨k,rfl,hkj,hik,kr,hS⟩:=hrel
          have hcw:∀ t,t<d.size->wr.cell? ⟨g,off+t,none⟩=some (.int .u64 (G t)):=fun t ht=>by rw [HI.out.1];exact (HI.out.2.1.keep kr (fun e=>e)).cell (by omega)
          have HS:=Lib.hid (A2 hS kr)
          clear hS kr
          by_cases hkj':i2<=k
          ·have hki:(i2:Int)<=(k:Int):=by omega
           have hka:a<d.size:=by omega
           have hkd:k<d.size:=by omega
           have hk0:0<k:=by omega
           go_wp2
           go_quiet (first | (go_at_call 223;refine Calls.quiet_of_same (Zw _ _ _)))
           go_wp2
           ·have hl0:(!ltInt (G k) (G a))=true:=by assumption
            go_roundw
            case rel=>exact ⟨k - 1,by congr 1;omega,by omega,by omega,HS.out.2.drewN _,by rw [<- scanDown_step hkj' hk0 (by rw [<- HI.out.1,<- HI.out.1];exact hl0)];exact HS.out.1⟩
            case measure=>simp [intOf];omega
           ·have hl0:(!ltInt (G k) (G a))=false:=by assumption
            go_meet
            exact ⟨by rw [<- HS.out.1,Vb (Or.inr (by rw [<- HI.out.1,<- HI.out.1];exact hl0))],HS.out.2.drewN _⟩
          ·have hki:¬(i2:Int)<=(k:Int):=by omega
           go_wp2
           go_quiet (first | (go_at_call 223;refine Calls.quiet_of_same (Zw _ _ _)))
           go_wp2
           go_meet
           exact ⟨by rw [<- HS.out.1,Vb (Or.inl hkj')],HS.out.2.drewN _⟩
        case rest =>
         clear kr
         obtain ⟨rfl,kr⟩:=hcut
         generalize wc=w3 at *
         have hR3:=HI.out.2.1.keep kr (fun e=>e)
         have hK3:=HK.out.1.trans kr (fun _ _ e=>e.elim)
         by_cases hgt:j2<i2
         ·have hgti:(j2:Int)<(i2:Int):=by omega
          have hLe:=HK.out.2.1
          rw [if_pos hgt] at hLe
          have HM:=Lib.hid (A3 hLe hR3 hK3)
          clear hLe hR3 hK3 kr
          go_wp2
          go_meet
          rw [HM.out.1]
          exact ⟨j2,rfl,by omega,by omega,rfl,hsj,HM.out.2.1,HM.out.2.2⟩
         ·have hgti:¬(j2:Int)<(i2:Int):=by omega
          have hlt2:=HK.out.2.2 hgt
          have hLe:=HK.out.2.1
          rw [if_neg hgt] at hLe
          have hcw:∀ t,t<d.size->w3.cell? ⟨g,off+t,none⟩=some (.int .u64 (G t)):=fun t ht=>by rw [HI.out.1];exact hR3.cell (by omega)
          have hfw:∀ t,t<d.size->w3.frozen? ⟨g,off+t,none⟩=false:=fun t _=>hR3.frozen t
          have hsw:=hR3.swapD (i:=i2) (j:=j2) (by omega) (by omega)
          rw [<- HI.out.1,<- HI.out.1] at hsw
          have HM:=Lib.hid (A3 hLe hsw hK3)
          clear hLe hR3 hK3 kr hsw
          go_wp2
          go_region
          all_goals go_wp2
          go_roundw
          case rel=>exact ⟨i2+1,j2 - 1,swp dj i2 j2,by go_num,by congr 1;omega,by omega,by omega,by omega,by rw [size_swp];exact hsj,HM.out.2.1.1,HM.out.2.2.trans HM.out.2.1.2 (fun _ _ e=>e),HM.out.1.symm⟩
          case measure=>simp [intOf];omega
     case rest =>
      clear hcw hfw hlt2 hgti hgt b1 b2 b3 b4
      obtain ⟨j,rfl,haj,hjb',hRj,hRs,hR,hK⟩:=hcut
      generalize wc=w5 at *
      obtain ⟨D,hD⟩:∃ D,D=R.2:=⟨_,rfl⟩
      rw [<- hD] at hRs hR
      obtain ⟨G,hG⟩:∃ G:Nat->Int,∀ t,G t=D[t]!:=⟨fun t=>D[t]!,fun _=>rfl⟩
      have hcw:∀ t,t<d.size->w5.cell? ⟨g,off+t,none⟩=some (.int .u64 (G t)):=fun t ht=>by rw [hG];exact hR.cell (by omega)
      have hfw:∀ t,t<d.size->w5.frozen? ⟨g,off+t,none⟩=false:=fun t _=>hR.frozen t
      have hsw:=hR.swapD (i:=j) (j:=a) (by omega) (by omega)
      rw [<- hG,<- hG] at hsw
      have hPP:P=(j,false,swp D j a):=by rw [HL.out.1,hRj,hD]
      have HM:=Lib.hid (A3 hPP hsw hK)
      clear hsw hR hK hPP hD hRj hG
      by_cases hja:j=a
      ·subst hja
       go_wp2
       go_region
       all_goals go_wp2
       go_ret2
       rw [HM.out.1]
       exact ⟨rfl,HM.out.2.1.1,HM.out.2.2.trans HM.out.2.1.2 (fun _ _ e=>e)⟩
      ·have hja':a<j:=by omega
       go_wp2
       go_region
       all_goals go_wp2
       go_ret2
       rw [HM.out.1]
       exact ⟨rfl,HM.out.2.1.1,HM.out.2.2.trans HM.out.2.1.2 (fun _ _ e=>e)⟩
theorem scanSorted_step {b i:Nat} {d:Array Int} (h:i<b) (hl:(!ltInt d[i]! d[i - 1]!)=true):scanSorted ltInt d b i=scanSorted ltInt d b (i+1):=by
 conv=>lhs;rw [scanSorted]
 simp only [hl,h,decide_true,Bool.and_true,if_true]
theorem scanSorted_end {b i:Nat} {d:Array Int} (h:¬i<b\/(!ltInt d[i]! d[i - 1]!)=false):scanSorted ltInt d b i=i:=by
 rw [scanSorted]
 rcases h with h | h <;> simp [h]
theorem scanSorted_ge (b:Nat) (d:Array Int):∀ (n i:Nat),b-i=n->i<=scanSorted ltInt d b i/\(i<=b->scanSorted ltInt d b i<=b):=by
 intro n
 induction n with
 | zero=>intro i h;rw [scanSorted_end (Or.inl (by omega))];exact ⟨Nat.le_refl _,fun h=>h⟩
 | succ n ih =>
  intro i h
  cases hl:(!ltInt d[i]! d[i - 1]!) with
  | false=>rw [scanSorted_end (Or.inr hl)];exact ⟨Nat.le_refl _,fun h=>h⟩
  | true =>
   rw [scanSorted_step (by omega) hl]
   have:=ih (i+1) (by omega)
   exact ⟨by omega,fun _=>this.2 (by omega)⟩
theorem shiftDown_size:∀ (j:Nat) (d:Array Int),(shiftDown ltInt j d).size=d.size:=by
 intro j
 induction j with
 | zero=>intro d;rfl
 | succ j ih =>
  intro d
  rw [shiftDown]
  split
  ·rfl
  ·rw [ih,size_swp]
theorem shiftUp_step {b j:Nat} {d:Array Int} (h:j<b) (hl:(!ltInt d[j]! d[j - 1]!)=false):shiftUp ltInt b j d=shiftUp ltInt b (j+1) (swp d j (j - 1)):=by
 conv=>lhs;rw [shiftUp]
 simp [h,hl]
theorem shiftUp_end {b j:Nat} {d:Array Int} (h:¬j<b\/(!ltInt d[j]! d[j - 1]!)=true):shiftUp ltInt b j d=d:=by
 rw [shiftUp]
 rcases h with h | h
 ·simp [h]
 ·split
  ·simp
  ·simp
theorem shiftUp_size (b:Nat):∀ (n j:Nat) (d:Array Int),b-j=n->(shiftUp ltInt b j d).size=d.size:=by
 intro n
 induction n with
 | zero=>intro j d h;rw [shiftUp_end (Or.inl (by omega))]
 | succ n ih =>
  intro j d h
  cases hl:(!ltInt d[j]! d[j - 1]!) with
  | true=>rw [shiftUp_end (Or.inr hl)]
  | false=>rw [shiftUp_step (by omega) hl,ih _ _ (by omega),size_swp]
theorem shiftDown_step {j:Nat} {d:Array Int} (h0:0<j) (hl:(!ltInt d[j]! d[j - 1]!)=false):shiftDown ltInt j d=shiftDown ltInt (j - 1) (swp d j (j - 1)):=by
 obtain ⟨k,rfl⟩:∃ k,j=k+1:=⟨j - 1,by omega⟩
 conv=>lhs;rw [shiftDown]
 simp only [Nat.add_sub_cancel] at hl ⊢
 simp [hl]
theorem shiftDown_end {j:Nat} {d:Array Int} (h:j=0\/(!ltInt d[j]! d[j - 1]!)=true):shiftDown ltInt j d=d:=by
 cases j with
 | zero=>rfl
 | succ k =>
  rw [shiftDown]
  rcases h with h | h
  ·cases h
  ·simp only [Nat.add_sub_cancel] at h
   simp [h]
theorem pins_spec {w:World} {g off cap a b:Nat} {d:Array Int} (h:Zj w g off d) (hab:a<b) (hb:b<=d.size) (hsz:d.size<=1099511627776) :
  Calls Tryz.prog 222 #[.slice (some ⟨g,off,none⟩) d.size cap,.int .i64 a,.int .i64 b] w fun e w' =>
   e=.returned (.bool (partialInsertionSort ltInt d a b).2)/\Zj w' g off (partialInsertionSort ltInt d a b).1/\Keep (·=g) w w':=by
 obtain ⟨R,hR⟩:∃ R,R=partialInsertionSort ltInt d a b:=⟨_,rfl⟩
 rw [<- hR]
 unfold partialInsertionSort at hR
 have hbi:(b:Int)<=1099511627776:=by omega
 have hai:(a:Int)<=1099511627776:=by omega
 have HR:=Lib.hid hR
 clear hR
 go_enter Tryz.func222,Tryz.ntmps222
 go_wp2
 go_loopw [7,8] (fun vi vs wr=>∃ (i s:Nat) (dk:Array Int),vi=.int .i64 i/\s<=5/\vs=.int .i64 (5 - (s:Int))/\a<i/\i<=b/\dk.size=d.size/\Zj wr g off dk/\Keep (·=g) w wr/\partialIns ltInt a b s i dk=R) (fun _ vs _=>(5-intOf vs).toNat)
 case atStart=>exact ⟨a+1,5,d,by go_num,Nat.le_refl _,rfl,by omega,by omega,rfl,h,Keep.refl _ _,HR.out.symm⟩
 case round =>
  clear h
  obtain ⟨i,s,dj,rfl,hs5,rfl,hai',hib,hsj,hRr,hK,hI⟩:=hrel
  cases s with
  | zero =>
   have HI:=Lib.hid (A3 hI hRr hK)
   clear hI hRr hK
   have e:(5:Int) - ((0:Nat):Int)=5:=rfl
   rw [e]
   go_wp2
   go_ret
   rw [<- HI.out.1]
   exact ⟨rfl,HI.out.2.1,HI.out.2.2⟩
  | succ s =>
   have hlt5:(5:Int) - ((s+1:Nat):Int)<5:=by omega
   obtain ⟨z,hz⟩:∃ z:Int,z=(5:Int) - ((s+1:Nat):Int):=⟨_,rfl⟩
   rw [<- hz] at hlt5 ⊢
   have hz0:0<=z:=by omega
   have HZ:=Lib.hid hz
   clear hz
   rw [partialIns] at hI
   simp only [] at hI
   obtain ⟨i2,hi2⟩:∃ i2,i2=scanSorted ltInt dj b i:=⟨_,rfl⟩
   rw [<- hi2] at hI
   have b1:=scanSorted_ge b dj _ i rfl
   rw [<- hi2] at b1
   obtain ⟨b1,b2⟩:=b1
   have b2:=b2 hib
   obtain ⟨G,hG⟩:∃ G:Nat->Int,∀ t,G t=dj[t]!:=⟨fun t=>dj[t]!,fun _=>rfl⟩
   have HI:=Lib.hid (A5 hG hRr hi2 hK hI)
   clear hG hRr hi2 hK hI
   go_upto_block 2 with fail
   go_cut [7] (fun v wx=>v=.int .i64 i2/\Keep No wr wx)
   case first =>
    go_wp2
    go_loopw [7] (fun vi wr2=>∃ (k:Nat),vi=.int .i64 k/\i<=k/\k<=b/\Keep No wr wr2/\scanSorted ltInt dj b k=i2) (fun vi _=>((b:Int)-intOf vi).toNat)
    case atStart=>exact ⟨i,rfl,Nat.le_refl _,hib,Keep.refl _ _,HI.out.2.2.1.symm⟩
    case round =>
     obtain ⟨k,rfl,hik,hkb,kr,hS⟩:=hrel
     have hcw:∀ t,t<d.size->wr.cell? ⟨g,off+t,none⟩=some (.int .u64 (G t)):=fun t ht=>by rw [HI.out.1];exact (HI.out.2.1.keep kr (fun e=>e)).cell (by omega)
     have HS:=Lib.hid (A2 hS kr)
     clear hS kr
     by_cases hkb':k<b
     ·have hki:(k:Int)<(b:Int):=by omega
      have hkd:k<d.size:=by omega
      go_wp2
      go_quiet (first | (go_at_call 223;refine Calls.quiet_of_same (Zw _ _ _)))
      go_wp2
      ·have hl0:(!ltInt (G k) (G (k - 1)))=true:=by assumption
       go_roundw
       case rel=>exact ⟨k+1,by go_num,by omega,by omega,HS.out.2.drewN _,by rw [<- scanSorted_step hkb' (by rw [<- HI.out.1,<- HI.out.1];exact hl0)];exact HS.out.1⟩
       case measure=>simp [intOf];omega
      ·have hl0:(!ltInt (G k) (G (k - 1)))=false:=by assumption
       go_meet
       exact ⟨by rw [<- HS.out.1,scanSorted_end (Or.inr (by rw [<- HI.out.1,<- HI.out.1];exact hl0))],HS.out.2.drewN _⟩
     ·have hki:¬(k:Int)<(b:Int):=by omega
      go_wp2
      go_quiet (first | (go_at_call 223;refine Calls.quiet_of_same (Zw _ _ _)))
      go_wp2
      go_meet
      exact ⟨by rw [<- HS.out.1,scanSorted_end (Or.inl hkb')],HS.out.2.drewN _⟩
   case rest =>
    obtain ⟨rfl,kr⟩:=hcut
    generalize wc=w2 at *
    have hR2:=HI.out.2.1.keep kr (fun e=>e)
    have hK2:=HI.out.2.2.2.1.trans kr (fun _ _ e=>e.elim)
    by_cases hib2:i2=b
    ·have hi2b:(i2:Int)=(b:Int):=by omega
     have hI:=HI.out.2.2.2.2
     rw [if_pos hib2] at hI
     have HM:=Lib.hid (A3 hI hR2 hK2)
     have hbq:((i2:Int)==(b:Int))=true:=by simpa using hi2b
     clear hI hR2 hK2 kr hib2 hi2b
     go_wp2
     go_ret
     rw [<- HM.out.1]
     exact ⟨rfl,HM.out.2.1,HM.out.2.2⟩
    ·have hbq:((i2:Int)==(b:Int))=false:=by simp;omega
     by_cases h50:b-a<50
     ·have h50i:(b:Int) - (a:Int)<50:=by omega
      have hI:=HI.out.2.2.2.2
      rw [if_neg hib2,if_pos h50] at hI
      have HM:=Lib.hid (A3 hI hR2 hK2)
      clear hI hR2 hK2 kr hib2
      go_wp2
      go_ret
      rw [<- HM.out.1]
      exact ⟨rfl,HM.out.2.1,HM.out.2.2⟩
     ·have h50i:¬(b:Int) - (a:Int)<50:=by omega
      have hI:=HI.out.2.2.2.2
      rw [if_neg hib2,if_neg h50] at hI
      have hi2b:i2<b:=by omega
      obtain ⟨D1,hD1⟩:∃ D1,D1=swp dj i2 (i2 - 1):=⟨_,rfl⟩
      rw [<- hD1] at hI
      obtain ⟨D2,hD2⟩:∃ D2,D2=(if i2-a >= 2 then shiftDown ltInt (i2 - 1) D1 else D1):=⟨_,rfl⟩
      rw [<- hD2] at hI
      obtain ⟨D3,hD3⟩:∃ D3,D3=(if b-i2 >= 2 then shiftUp ltInt b (i2+1) D2 else D2):=⟨_,rfl⟩
      rw [<- hD3] at hI
      have s1:D1.size=d.size:=by rw [hD1,size_swp];exact hsj
      have s2:D2.size=d.size:=by rw [hD2];split;rw [shiftDown_size,s1];exact s1
      have s3:D3.size=d.size:=by rw [hD3];split;rw [shiftUp_size b _ _ _ rfl,s2];exact s2
      have hcw:∀ t,t<d.size->w2.cell? ⟨g,off+t,none⟩=some (.int .u64 (G t)):=fun t ht=>by rw [HI.out.1];exact hR2.cell (by omega)
      have hfw:∀ t,t<d.size->w2.frozen? ⟨g,off+t,none⟩=false:=fun t _=>hR2.frozen t
      have hsw:=hR2.swapD (i:=i2) (j:=i2 - 1) (by omega) (by omega)
      rw [<- HI.out.1,<- HI.out.1,<- hD1] at hsw
      have HM:=Lib.hid (A5 hI hsw hK2 hD2 hD3)
      clear hI hR2 hK2 kr hib2 hsw hD1 hD2 hD3
      have hi2d:i2<d.size:=by omega
      have hi20:0<i2:=by omega
      go_upto_region 11 with fail
      go_cut [] (fun wx=>Zj wx g off D1/\Keep (·=g) w wx)
      case first =>
       go_wp2
       go_region
       all_goals go_wp2
       go_meet
       exact ⟨HM.out.2.1.1,HM.out.2.2.1.trans HM.out.2.1.2 (fun _ _ e=>e)⟩
      case rest =>
       clear hcw hfw
       obtain ⟨r1,k1⟩:=hcut
       generalize wc=w3 at *
       go_upto_if 61 with fail
       go_cut [] (fun wx=>Zj wx g off D2/\Keep (·=g) w wx)
       case first =>
        by_cases h2:i2-a >= 2
        ·have h2i:(2:Int)<=(i2:Int) - (a:Int):=by omega
         have hD2:=HM.out.2.2.2.1
         rw [if_pos h2] at hD2
         have HH:=Lib.hid (A3 hD2 r1 k1)
         clear hD2 r1 k1
         go_wp2
         go_loopw [9] (fun vj wr2=>∃ (k:Nat) (D:Array Int),vj=.int .i64 k/\k<d.size/\D.size=d.size/\Zj wr2 g off D/\Keep (·=g) w wr2/\shiftDown ltInt k D=D2) (fun vj _=>(intOf vj).toNat)
         case atStart=>exact ⟨i2 - 1,D1,by congr 1;omega,by omega,s1,HH.out.2.1,HH.out.2.2,HH.out.1.symm⟩
         case round =>
          obtain ⟨k,D,rfl,hkd,hsD,hRD,hKD,hS⟩:=hrel
          obtain ⟨E,hE⟩:∃ E:Nat->Int,∀ t,E t=D[t]!:=⟨fun t=>D[t]!,fun _=>rfl⟩
          have hcw:∀ t,t<d.size->wr.cell? ⟨g,off+t,none⟩=some (.int .u64 (E t)):=fun t ht=>by rw [hE];exact hRD.cell (by omega)
          have hfw:∀ t,t<d.size->wr.frozen? ⟨g,off+t,none⟩=false:=fun t _=>hRD.frozen t
          by_cases hk0:0<k
          ·have hki:(1:Int)<=(k:Int):=by omega
           have hk1:k - 1<d.size:=by omega
           have HS:=Lib.hid (A4 hS hE hRD hKD)
           clear hS hE hRD hKD
           go_wp2
           go_quiet (first | (go_at_call 223;refine Calls.quiet_of_same (Zw _ _ _)))
           go_wp2
           ·have hl0:(!ltInt (E k) (E (k - 1)))=true:=by assumption
            go_meet
            have e:D2=D:=by rw [<- HS.out.1,shiftDown_end (Or.inr (by rw [<- HS.out.2.1,<- HS.out.2.1];exact hl0))]
            rw [e]
            exact ⟨HS.out.2.2.1.keep ((Keep.refl No _).drewN _) (fun e=>e),HS.out.2.2.2.drewN _⟩
           ·have hl0:(!ltInt (E k) (E (k - 1)))=false:=by assumption
            go_region
            all_goals go_wp2
            go_roundw
            case rel =>
             have hsw:=(HS.out.2.2.1.keep ((Keep.refl No wr).drewN (nq+1)) (fun e=>e)).swap (i:=k) (j:=k - 1) (by omega) (by omega)
             rw [<- HS.out.2.1,<- HS.out.2.1] at hsw
             exact ⟨k - 1,swp D k (k - 1),by congr 1;omega,hk1,by rw [size_swp];exact hsD,hsw.1,(HS.out.2.2.2.drewN (nq+1)).trans hsw.2 (fun _ _ e=>e),by rw [<- HS.out.1,shiftDown_step hk0 (by rw [<- HS.out.2.1,<- HS.out.2.1];exact hl0)]⟩
            case measure=>simp [intOf];omega
          ·have hki:¬(1:Int)<=(k:Int):=by omega
           have e:D2=D:=by rw [<- hS,shiftDown_end (Or.inl (by omega))]
           have HS:=Lib.hid (A3 e hRD hKD)
           clear hS hE hRD hKD e
           go_wp2
           go_meet
           rw [HS.out.1]
           exact HS.out.2
        ·have h2i:¬(2:Int)<=(i2:Int) - (a:Int):=by omega
         have hD2:=HM.out.2.2.2.1
         rw [if_neg h2] at hD2
         have HH:=Lib.hid (A3 hD2 r1 k1)
         clear hD2 r1 k1
         go_wp2
         go_meet
         rw [HH.out.1]
         exact HH.out.2
       case rest =>
        clear r1 k1
        obtain ⟨r2,k2⟩:=hcut
        generalize wc=w4 at *
        have fin:∀ wx,Zj wx g off D3->Keep (·=g) w wx->∃ (i s:Nat) (dk:Array Int),Value.int .i64 (i2:Int)=.int .i64 i/\s<=5/\Value.int .i64 (z+1)=.int .i64 (5 - (s:Int))/\a<i/\i<=b/\dk.size=d.size/\Zj wx g off dk/\Keep (·=g) w wx/\partialIns ltInt a b s i dk=R:=fun wx r3 k3 =>
         ⟨i2,s,D3,rfl,by omega,by have:=HZ.out;congr 1;omega,by omega,by omega,s3,r3,k3,HM.out.1⟩
        have FIN:=Lib.hid fin
        clear fin
        go_upto_if 98 with fail
        focus
         by_cases h2:b-i2 >= 2
         ·have h2i:(2:Int)<=(b:Int) - (i2:Int):=by omega
          have hD3:=HM.out.2.2.2.2
          rw [if_pos h2] at hD3
          have HH:=Lib.hid (A3 hD3 r2 k2)
          clear hD3 r2 k2
          go_wp2
          go_loopw [10] (fun vj wr2=>∃ (k:Nat) (D:Array Int),vj=.int .i64 k/\0<k/\k<=b/\D.size=d.size/\Zj wr2 g off D/\Keep (·=g) w wr2/\shiftUp ltInt b k D=D3) (fun vj _=>((b:Int)-intOf vj).toNat)
          case atStart=>exact ⟨i2+1,D2,by go_num,by omega,by omega,s2,HH.out.2.1,HH.out.2.2,HH.out.1.symm⟩
          case round =>
           obtain ⟨k,D,rfl,hk0,hkb,hsD,hRD,hKD,hS⟩:=hrel
           obtain ⟨E,hE⟩:∃ E:Nat->Int,∀ t,E t=D[t]!:=⟨fun t=>D[t]!,fun _=>rfl⟩
           have hcw:∀ t,t<d.size->wr.cell? ⟨g,off+t,none⟩=some (.int .u64 (E t)):=fun t ht=>by rw [hE];exact hRD.cell (by omega)
           have hfw:∀ t,t<d.size->wr.frozen? ⟨g,off+t,none⟩=false:=fun t _=>hRD.frozen t
           by_cases hkb':k<b
           ·have hki:(k:Int)<(b:Int):=by omega
            have hkd:k<d.size:=by omega
            have HS:=Lib.hid (A4 hS hE hRD hKD)
            clear hS hE hRD hKD
            go_wp2
            go_quiet (first | (go_at_call 223;refine Calls.quiet_of_same (Zw _ _ _)))
            go_wp2
            ·have hl0:(!ltInt (E k) (E (k - 1)))=true:=by assumption
             go_roundw
             case rel =>
              have e:D3=D:=by rw [<- HS.out.1,shiftUp_end (Or.inr (by rw [<- HS.out.2.1,<- HS.out.2.1];exact hl0))]
              exact FIN.out _ (by rw [e];exact HS.out.2.2.1.keep ((Keep.refl No _).drewN _) (fun e=>e)) (HS.out.2.2.2.drewN _)
             case measure=>have:=HZ.out;simp [intOf];omega
            ·have hl0:(!ltInt (E k) (E (k - 1)))=false:=by assumption
             go_region
             all_goals go_wp2
             go_roundw
             case rel =>
              have hsw:=(HS.out.2.2.1.keep ((Keep.refl No wr).drewN (nq+1)) (fun e=>e)).swap (i:=k) (j:=k - 1) (by omega) (by omega)
              rw [<- HS.out.2.1,<- HS.out.2.1] at hsw
              exact ⟨k+1,swp D k (k - 1),by go_num,by omega,by omega,by rw [size_swp];exact hsD,hsw.1,(HS.out.2.2.2.drewN (nq+1)).trans hsw.2 (fun _ _ e=>e),by rw [<- HS.out.1,shiftUp_step hkb' (by rw [<- HS.out.2.1,<- HS.out.2.1];exact hl0)]⟩
             case measure=>simp [intOf];omega
           ·have hki:¬(k:Int)<(b:Int):=by omega
            have e:D3=D:=by rw [<- hS,shiftUp_end (Or.inl (by omega))]
            have HS:=Lib.hid (A3 e hRD hKD)
            clear hS hE hRD hKD e
            go_wp2
            go_roundw
            case rel=>exact FIN.out _ (by rw [HS.out.1];exact HS.out.2.1) HS.out.2.2
            case measure=>have:=HZ.out;simp [intOf];omega
         ·have h2i:¬(2:Int)<=(b:Int) - (i2:Int):=by omega
          have hD3:=HM.out.2.2.2.2
          rw [if_neg h2] at hD3
          have HH:=Lib.hid (A3 hD3 r2 k2)
          clear hD3 r2 k2
          go_wp2
          go_roundw
          case rel=>exact FIN.out _ (by rw [HH.out.1];exact HH.out.2.1) HH.out.2.2
          case measure=>have:=HZ.out;simp [intOf];omega
def BoxU (w:World) (s:Nat) (n:Nat):Prop:=w.heap[s]?=some (.cells #[.int .u64 n] 331 (0,0))
theorem setCell_twice (w:World) (blk off:Nat) (v v':Value):(w.setCell ⟨blk,off,none⟩ v).setCell ⟨blk,off,none⟩ v'=w.setCell ⟨blk,off,none⟩ v':=by
 rw [setCell_eq,setCell_eq,mapBlock_mapBlock,setCell_eq]
 congr 1
 funext c
 simp
theorem xnext_spec {w:World} {s X:Nat} (h:BoxU w s X) (hX:X<18446744073709551616) :
  Calls Tryz.prog 230 #[.pointer (some ⟨s,0,none⟩)] w fun e w'=>e=.returned (.int .u64 (xorNextN X:Nat))/\BoxU w' s (xorNextN X)/\Keep (·=s) w w':=by
 have c0:=Qq h 0
 have f0:=Qg h 0
 simp at c0
 obtain ⟨A,hA⟩:∃ A,A=X ^^^ (X*8192 % 18446744073709551616):=⟨_,rfl⟩
 obtain ⟨B,hB⟩:∃ B,B=A ^^^ (A / 128):=⟨_,rfl⟩
 obtain ⟨C,hC⟩:∃ C,C=B ^^^ (B*131072 % 18446744073709551616):=⟨_,rfl⟩
 have lA:A<18446744073709551616:=by rw [hA];exact Nat.xor_lt_two_pow (n:=64) (by omega) (by omega)
 have lB:B<18446744073709551616:=by rw [hB];exact Nat.xor_lt_two_pow (n:=64) (by omega) (by omega)
 have e1:bits .xor .u64 (X:Int) (IntKind.u64.wrap ((X:Int)*8192))=(A:Int):=by
  rw [IntKind.wrap_u64,show ((X:Int)*8192 % 18446744073709551616)=((X*8192 % 18446744073709551616:Nat):Int) by omega,bits_xor_u64_nat _ _ hX (by omega),hA]
 have e2:bits .xor .u64 (A:Int) ((A:Int) / 128)=(B:Int):=by
  rw [show ((A:Int) / 128)=((A / 128:Nat):Int) by omega,bits_xor_u64_nat _ _ lA (by omega),hB]
 have e3:bits .xor .u64 (B:Int) (IntKind.u64.wrap ((B:Int)*131072))=(C:Int):=by
  rw [IntKind.wrap_u64,show ((B:Int)*131072 % 18446744073709551616)=((B*131072 % 18446744073709551616:Nat):Int) by omega,bits_xor_u64_nat _ _ lB (by omega),hC]
 have hv:xorNextN X=C:=by unfold xorNextN;simp only [];rw [<- hA,<- hB,<- hC]
 rw [hv]
 have hss:∀ v v',(w.setCell ⟨s,0,none⟩ v).setCell ⟨s,0,none⟩ v'=w.setCell ⟨s,0,none⟩ v':=setCell_twice w s 0
 have hfin:BoxU ((w.setCell ⟨s,0,none⟩ (.int .u64 C)).drewN 3) s C/\Keep (·=s) w ((w.setCell ⟨s,0,none⟩ (.int .u64 C)).drewN 3):=by
  have hb2:=Qz (i:=0) (u:=.int .u64 C) h
  refine ⟨?_,(Keep.setCell (F:=(·=s)) (Keep.refl _ _) (p:=⟨s,0,none⟩) (.inl rfl) _).drewN 3⟩
  have:((w.setCell ⟨s,0,none⟩ (.int .u64 C)).drewN 3).heap[s]?=(w.setCell ⟨s,0,none⟩ (.int .u64 C)).heap[s]?:=rfl
  unfold BoxU
  rw [this,hb2]
  simp
 have HF:=Lib.hid hfin
 clear hA hB hC hv h hfin
 go_enter Tryz.func230,Tryz.ntmps230
 go_wp2
 go_region
 all_goals go_wp2
 all_goals go_region
 all_goals go_wp2
 all_goals go_region
 all_goals go_wp2
 go_ret
 exact ⟨rfl,HF.out⟩
def brkN (a n m:Nat) (st:UInt64 × Array Int) (idx:Nat):Nat->UInt64 × Array Int
 | 0=>st
 | k+1=>breakStep a n m (brkN a n m st idx k) (idx+k)
theorem brkN_size (a n m:Nat) (st:UInt64 × Array Int) (idx:Nat):∀ k,(brkN a n m st idx k).2.size=st.2.size:=by
 intro k
 induction k with
 | zero=>rfl
 | succ k ih=>simp only [brkN,breakStep];rw [size_swp,ih]
theorem breakPatterns_eq {d:Array Int} {a b n:Nat} (hn:b-a=n) (h:8<=n):breakPatterns d a b=(brkN a n (1 <<< bitsLen n) (UInt64.ofNat n,d) (a+n / 4*2 - 1) 3).2:=by
 unfold breakPatterns
 simp only [hn]
 rw [if_pos h]
 rfl
theorem brk_spec {w:World} {g off cap a b:Nat} {d:Array Int} (h:Zj w g off d) (hab:12<b-a) (hb:b<=d.size) (hsz:d.size<65536) :
  Calls Tryz.prog 219 #[.slice (some ⟨g,off,none⟩) d.size cap,.int .i64 a,.int .i64 b] w fun e w'=>e=.returned (.tuple #[])/\Zj w' g off (breakPatterns d a b)/\Keep (·=g) w w':=by
 obtain ⟨n,hn⟩:∃ n:Nat,b-a=n:=⟨_,rfl⟩
 obtain ⟨q,hq⟩:∃ q:Nat,n / 4=q:=⟨_,rfl⟩
 obtain ⟨m,hm⟩:∃ m:Nat,m=1 <<< bitsLen n:=⟨_,rfl⟩
 have e0:(b:Int) - (a:Int)=(n:Int):=by omega
 have e1:(n:Int).tdiv 4=(q:Int):=by rw [<- hq];rfl
 have hn8:(8:Int)<=(n:Int):=by omega
 have hni:(n:Int)<=1099511627776:=by omega
 have hqi:(q:Int)<=1099511627776:=by omega
 have hai:(a:Int)<=1099511627776:=by omega
 have hbp:=breakPatterns_eq (d:=d) hn (by omega)
 rw [hq,<- hm] at hbp
 have hm2:m<=2*n:=by rw [hm,Nat.one_shiftLeft];exact two_pow_bitsLen_le (by omega)
 have hm1:1<=m:=by rw [hm,Nat.one_shiftLeft];exact Nat.two_pow_pos _
 have hmi:(m:Int)<=1099511627776:=by omega
 have hmi1:(1:Int)<=(m:Int):=by omega
 obtain ⟨x0,hx0⟩:∃ x0:Nat,x0=a+q*2 - 1:=⟨_,rfl⟩
 have hx0i:(a:Int)+(q:Int)*2 - 1=(x0:Int):=by omega
 have hxa:a<=x0:=by omega
 have hxb:x0+2<b:=by omega
 rw [<- hx0] at hbp
 rw [hbp]
 have hpow:=npow2_spec n (by omega)
 rw [<- hm] at hpow
 have hgl:=h.lt
 have kA:Keep No w (w.alloc (.cells #[.int .u64 n] 331)):=(Keep.refl _ _).alloc _
 have hbx:BoxU (w.alloc (.cells #[.int .u64 n] 331)) w.heap.size n:=Qy w _
 have hr0:=h.keep kA (fun e=>e)
 have HA:=Lib.hid (A7 hbx hr0 kA hn hq hm hx0)
 clear hbx hr0 kA hn hq hm hx0 h hbp
 have hu64:(brkN a n m (UInt64.ofNat n,d) x0 0).1.toNat=n:=by show (UInt64.ofNat n).toNat=n;rw [UInt64.toNat_ofNat'];omega
 have HSZ:=Lib.hid hsz
 clear hsz
 go_enter Tryz.func219,Tryz.ntmps219
 go_upto_block 0 with (go_at_call 229;refine (hpow _).mono ?_;rintro e w' ⟨rfl,rfl⟩)
 go_wp2
 go_loopw [9] (fun vi wr=>∃ (k:Nat),vi=.int .i64 ((x0+k:Nat):Int)/\k<=3/\BoxU wr w.heap.size (brkN a n m (UInt64.ofNat n,d) x0 k).1.toNat/\Zj wr g off (brkN a n m (UInt64.ofNat n,d) x0 k).2/\Keep (·=g) w wr) (fun vi _=>((x0:Int)+3-intOf vi).toNat)
 case atStart=>exact ⟨0,by go_num,by omega,by rw [hu64];exact HA.out.1,HA.out.2.1,HA.out.2.2.1.no⟩
 case round =>
  clear hu64
  obtain ⟨k,rfl,hk3,hB,hR,hK⟩:=hrel
  by_cases hk:k<3
  ·have hki:((x0+k:Nat):Int)<=(a:Int)+(q:Int)*2+1:=by omega
   have hsk:=brkN_size a n m (UInt64.ofNat n,d) x0 k
   have hst:brkN a n m (UInt64.ofNat n,d) x0 (k+1)=breakStep a n m (brkN a n m (UInt64.ofNat n,d) x0 k) (x0+k):=rfl
   generalize brkN a n m (UInt64.ofNat n,d) x0 k=st at *
   obtain ⟨r,dk⟩:=st
   simp only [] at hB hR hsk
   obtain ⟨X,hX⟩:∃ X,X=xorNextN r.toNat:=⟨_,rfl⟩
   have hXl:X<18446744073709551616:=by rw [hX];exact xorNextN_lt _ r.toNat_lt
   obtain ⟨o,ho⟩:∃ o,o=X &&& (m - 1):=⟨_,rfl⟩
   have hol:o<=m - 1:=by rw [ho];exact Nat.and_le_right
   have eb:bits .and .u64 (X:Int) ((m:Int) - 1)=(o:Int):=by
    rw [show (m:Int) - 1=((m - 1:Nat):Int) by omega,bits_and_u64_nat _ _ hXl (by omega),ho]
   obtain ⟨o2,ho2⟩:∃ o2,o2=(if o >= n then o-n else o):=⟨_,rfl⟩
   have ho2n:o2<n:=by rw [ho2];split <;> omega
   have hbs:breakStep a n m (r,dk) (x0+k)=(xorNext r,swp dk (x0+k) (a+o2)):=by
    unfold breakStep
    simp only []
    rw [xorNext_toNat,<- hX,<- ho,<- ho2]
   rw [hbs] at hst
   have hnx:=xnext_spec hB r.toNat_lt
   rw [<- hX] at hnx
   have hrx:X=(xorNext r).toNat:=by rw [xorNext_toNat,<- hX]
   have hoi:(o:Int)<=1099511627776:=by omega
   have HI:=Lib.hid (A5 hR hK hst hrx hsk)
   clear hR hK hst hbs hrx hX ho hB
   obtain ⟨y,hy⟩:∃ y:Nat,y=x0+k:=⟨_,rfl⟩
   rw [<- hy] at hki ⊢
   have hya:a<=y:=by omega
   have hyb:y<b:=by omega
   have HY:=Lib.hid (A2 hy hsk)
   clear hy
   go_upto_if 43 with (go_at_call 230;refine hnx.mono ?_;rintro e w5 ⟨rfl,hB5,hK5⟩)
   go_cut [10] (fun v wx=>v=.int .i64 (o2:Int)/\wx=w5)
   case first =>
    by_cases hon:n<=o
    ·have honi:(n:Int)<=(o:Int):=by omega
     have e:o2=o-n:=by rw [ho2,if_pos hon]
     clear ho2
     go_wp2
     go_meet
     exact ⟨by congr 1;omega,rfl⟩
    ·have honi:¬(n:Int)<=(o:Int):=by omega
     have e:o2=o:=by rw [ho2,if_neg hon]
     clear ho2
     go_wp2
     go_meet
     exact ⟨by congr 1;omega,rfl⟩
   case rest =>
    obtain ⟨rfl,rfl⟩:=hcut
    have hR5:=HI.out.1.keep hK5 (fun e=>by have e:g=w.heap.size:=e;omega)
    have hK6:=HI.out.2.1.trans hK5 (fun y hy e=>by have e:y=w.heap.size:=e;omega)
    obtain ⟨G,hG⟩:∃ G:Nat->Int,∀ t,G t=dk[t]!:=⟨fun t=>dk[t]!,fun _=>rfl⟩
    have hcw:∀ t,t<d.size->wc.cell? ⟨g,off+t,none⟩=some (.int .u64 (G t)):=fun t ht=>by rw [hG];exact hR5.cell (by omega)
    have hfw:∀ t,t<d.size->wc.frozen? ⟨g,off+t,none⟩=false:=fun t _=>hR5.frozen t
    have hsw:=hR5.swapD (i:=y) (j:=a+o2) (by omega) (by omega)
    rw [<- hG,<- hG] at hsw
    have hfin:∀ wx,Zj wx g off (swp dk y (a+o2))->Keep (·=g) w wx->BoxU wx w.heap.size X->∃ (k':Nat),Value.int .i64 ((y:Int)+1)=.int .i64 ((x0+k':Nat):Int)/\k'<=3/\BoxU wx w.heap.size (brkN a n m (UInt64.ofNat n,d) x0 k').1.toNat/\Zj wx g off (brkN a n m (UInt64.ofNat n,d) x0 k').2/\Keep (·=g) w wx:=fun wx h1 h2 h3 =>
     ⟨k+1,by have:=HY.out.1;congr 1;omega,by omega,by rw [HI.out.2.2.1];simp only [];rw [<- HI.out.2.2.2.1];exact h3,by rw [HI.out.2.2.1,<- HY.out.1];exact h1,h2⟩
    have hbk:∀ wx,Keep (·=g) wc wx->BoxU wx w.heap.size X:=fun wx kx=>kx.heap hB5 (fun e=>by have e:w.heap.size=g:=e;omega)
    have HM:=Lib.hid (A4 hsw hK6 hfin hbk)
    clear hR5 hK6 hG hsw hfin hbk hB5 hK5 ho2 hsk
    have hoa:a+o2<d.size:=by omega
    have hyd:y<d.size:=by omega
    by_cases hsame:y=a+o2
    ·have HE:=Lib.hid hsame
     subst hsame
     go_wp2
     go_region
     all_goals go_wp2
     go_roundw
     case rel=>exact HM.out.2.2.1 _ HM.out.1.1 (HM.out.2.1.trans HM.out.1.2 (fun _ _ e=>e)) (HM.out.2.2.2 _ HM.out.1.2)
     case measure=>have:=HY.out.1;simp [intOf];omega
    ·by_cases hlt2:y<a+o2
     ·go_wp2
      go_region
      all_goals go_wp2
      go_roundw
      case rel=>exact HM.out.2.2.1 _ HM.out.1.1 (HM.out.2.1.trans HM.out.1.2 (fun _ _ e=>e)) (HM.out.2.2.2 _ HM.out.1.2)
      case measure=>have:=HY.out.1;simp [intOf];omega
     ·have hlt3:a+o2<y:=by omega
      go_wp2
      go_region
      all_goals go_wp2
      go_roundw
      case rel=>exact HM.out.2.2.1 _ HM.out.1.1 (HM.out.2.1.trans HM.out.1.2 (fun _ _ e=>e)) (HM.out.2.2.2 _ HM.out.1.2)
      case measure=>have:=HY.out.1;simp [intOf];omega
  ·have hki:¬((x0+k:Nat):Int)<=(a:Int)+(q:Int)*2+1:=by omega
   obtain rfl:k=3:=by omega
   have HI:=Lib.hid (A2 hR hK)
   clear hR hK hB
   go_wp2
   go_end0
   exact ⟨rfl,HI.out.1,HI.out.2⟩
structure Rest (a0 b0:Nat) (d0:Array Int) (a b:Nat) (dk:Array Int):Prop where
 size:dk.size=d0.size
 ab:a<=b
 bs:b<=d0.size
 below:Go.Sort.Below ltInt a b dk
 done:∀ R,PermIn a b dk R->SortedIn ltInt a b R->PermIn a0 b0 d0 R/\SortedIn ltInt a0 b0 R
theorem Rest.perm {a0 b0 a b:Nat} {d0 dk dk':Array Int} (h:Rest a0 b0 d0 a b dk) (p:PermIn a b dk dk'):Rest a0 b0 d0 a b dk' :=
 ⟨by rw [p.1,h.size],h.ab,h.bs,h.below.perm (by rw [h.size];exact h.bs) p,fun R hR hS=>h.done R (permIn_trans _ _ _ a b p hR) hS⟩
def PdqPost (w:World) (g off a b:Nat) (d:Array Int) (e:Ending) (w':World):Prop :=
 e=.returned (.tuple #[])/\∃ d',PermIn a b d d'/\SortedIn ltInt a b d'/\Zj w' g off d'/\Keep (·=g) w w'
theorem pdq_spec {g off cap:Nat}:∀ (N:Nat) (w:World) (d:Array Int) (a b l:Nat),b-a<=N->Zj w g off d->a<=b->b<=d.size->Hid (d.size<65536)->l<=1000->Go.Sort.Below ltInt a b d ->
  Calls Tryz.prog 211 #[.slice (some ⟨g,off,none⟩) d.size cap,.int .i64 a,.int .i64 b,.int .i64 l] w (PdqPost w g off a b d):=by
 intro N
 induction N using Nat.strongRecOn with
 | _ N ih =>
 intro w d a b l hN h hab hb HSZ hl hB
 have ih':∀ (w:World) (d:Array Int) (a' b' l:Nat),b'-a'<b-a->Zj w g off d->a'<=b'->b'<=d.size->Hid (d.size<65536)->l<=1000->Go.Sort.Below ltInt a' b' d ->
  Calls Tryz.prog 211 #[.slice (some ⟨g,off,none⟩) d.size cap,.int .i64 a',.int .i64 b',.int .i64 l] w (PdqPost w g off a' b' d):=fun w d a' b' l h1=>ih (b'-a') (by omega) w d a' b' l (Nat.le_refl _)
 have HIH:=Lib.hid ih'
 clear ih' ih hN
 have hrest:Rest a b d a b d:=⟨rfl,hab,hb,hB,fun R h1 h2=>⟨h1,h2⟩⟩
 have hsz:d.size<=1099511627776:=by have:=HSZ.out;omega
 have hli:(l:Int)<=1099511627776:=by omega
 go_enter Tryz.func211,Tryz.ntmps211
 go_wp2
 go_loopw [1,2,3,8,9] (fun va vb vl vwb vwp wr=>∃ (A B L:Nat) (wb wp:Bool) (dk:Array Int),va=.int .i64 A/\vb=.int .i64 B/\vl=.int .i64 L/\L<=1000/\vwb=.bool wb/\vwp=.bool wp/\B-A<=b-a/\Zj wr g off dk/\Keep (·=g) w wr/\Rest a b d A B dk) (fun va vb _ _ _ _=>(intOf vb-intOf va).toNat)
 case atStart=>exact ⟨a,b,l,true,true,d,rfl,rfl,rfl,hl,rfl,rfl,Nat.le_refl _,h,Keep.refl _ _,hrest⟩
 case round =>
  clear h hrest hB hl hli
  obtain ⟨A,B,L,wb,wp,dk,rfl,rfl,rfl,hL,rfl,rfl,hAB,hR,hK,hRest⟩:=hrel
  obtain ⟨n,hn⟩:∃ n:Nat,B-A=n:=⟨_,rfl⟩
  have hle:=hRest.ab
  have hbs:=hRest.bs
  have hsk:=hRest.size
  have e0:(B:Int) - (A:Int)=(n:Int):=by omega
  have hLi:(L:Int)<=1099511627776:=by omega
  have hAi:(A:Int)<=1099511627776:=by omega
  have hBi:(B:Int)<=1099511627776:=by omega
  have hni:(n:Int)<=1099511627776:=by omega
  have swo:SWO ltInt:=swo_ltInt
  by_cases h12:n<=12
  ·have h12i:(n:Int)<=12:=by omega
   have hins:=ins_spec (cap:=cap) hR hle (by omega) (by omega)
   rw [hsk] at hins
   have hp:=insertionSort_holds swo dk A B hle (by omega)
   have hd:=hRest.done _ hp.1 hp.2
   have HD:=Lib.hid (A3 hins hd hK)
   clear hins hp hd hK hR hRest h12 HIH HSZ
   go_wp2_with (go_at_call 217;refine HD.out.1.mono ?_;rintro e w2 ⟨rfl,hR2,hK2⟩)
   refine bodyPost_ret (results_none rfl _ _ _) rfl ?_
   exact ⟨rfl,_,HD.out.2.1.1,HD.out.2.1.2,hR2,HD.out.2.2.trans hK2 (fun _ _ e=>e)⟩
  ·have h12i:¬(n:Int)<=12:=by omega
   by_cases hL0:L=0
   ·subst hL0
    have hheap:=heap_spec (cap:=cap) hR (a:=A) (b:=B) (by omega) (by omega) (by omega)
    rw [hsk] at hheap
    have hp:=heapSort_holds swo dk A B hle (by omega)
    have hd:=hRest.done _ hp.1 hp.2
    have HD:=Lib.hid (A3 hheap hd hK)
    clear hheap hp hd hK hR hRest h12 HIH HSZ
    go_wp2_with (go_at_call 218;refine HD.out.1.mono ?_;rintro e w2 ⟨rfl,hR2,hK2⟩)
    refine bodyPost_ret (results_none rfl _ _ _) rfl ?_
    exact ⟨rfl,_,HD.out.2.1.1,HD.out.2.1.2,hR2,HD.out.2.2.trans hK2 (fun _ _ e=>e)⟩
   ·have hL0i:((L:Int)==0)=false:=by simp;omega
    have HP:=Lib.hid (A7 hR hK hRest hAB hL hL0 hn)
    have hn12:12<B-A:=by omega
    clear hR hK hRest hAB hL hL0 hn h12
    go_upto_if 35 with fail
    go_cut [3] (fun v wx=>∃ (L1:Nat) (d1:Array Int),v=.int .i64 L1/\L1<=1000/\Zj wx g off d1/\Keep (·=g) w wx/\Rest a b d A B d1)
    case first =>
     cases wb with
     | true =>
      go_wp2
      go_meet
      exact ⟨L,dk,rfl,HP.out.2.2.2.2.1,HP.out.1,HP.out.2.1,HP.out.2.2.1⟩
     | false =>
      have hbrk:=brk_spec (cap:=cap) HP.out.1 hn12 (by omega) (by rw [hsk];exact HSZ.out)
      rw [hsk] at hbrk
      have hp:=breakPatterns_holds dk A B hle (by omega)
      have HD:=Lib.hid (A2 hbrk hp)
      clear hbrk hp
      go_wp2_with (go_at_call 219;refine HD.out.1.mono ?_;rintro e w2 ⟨rfl,hR2,hK2⟩)
      go_meet
      exact ⟨L - 1,_,by have:=HP.out.2.2.2.2.2.1;congr 1;omega,by have:=HP.out.2.2.2.2.1;omega,hR2,HP.out.2.1.trans hK2 (fun _ _ e=>e),HP.out.2.2.1.perm HD.out.2⟩
    case rest =>
     obtain ⟨L1,d1,rfl,hL1,hR1,hK1,hRest1⟩:=hcut
     generalize wc=w1 at *
     have hL1i:(L1:Int)<=1099511627776:=by omega
     have hs1:=hRest1.size
     have hpiv:=piv_spec (cap:=cap) hR1 hn12 (by omega) (by omega)
     rw [hs1] at hpiv
     have hc0:=choosePivot_holds ltInt d1 A B (by omega)
     generalize choosePivot ltInt d1 A B=c at *
     obtain ⟨c1,c2⟩:=c
     simp only [] at hpiv hc0
     have HP1:=Lib.hid (A5 hR1 hK1 hRest1 hL1 hc0)
     have HPV:=Lib.hid hpiv
     clear hR1 hK1 hRest1 hL1 hc0 hpiv hL0i
     have hc1i:(c1:Int)<=1099511627776:=by have:=HP1.out.2.2.2.2;omega
     go_upto_if 50 with (go_at_call 220;refine HPV.out.mono ?_;rintro e w2 ⟨rfl,hR2,hK2⟩)
     go_cut [11,12] (fun pv hv wx=>∃ (pivot:Nat) (hc:Int) (d2:Array Int),pv=.int .i64 pivot/\hv=.int .i64 hc/\A<=pivot/\pivot<B/\Zj wx g off d2/\Keep (·=g) w wx/\Rest a b d A B d2)
     case first =>
      cases c2 with
      | decreasing =>
       have hrev:=rev_spec (cap:=cap) hR2 (a:=A) (b:=B) (by omega) (by omega) (by omega)
       rw [hs1] at hrev
       have hp:=reverseRange_holds d1 A B hle (by omega)
       have HD:=Lib.hid (A3 hrev hp hK2)
       clear hrev hp hR2 hK2
       have e2:hintCode .decreasing=2:=rfl
       rw [e2]
       go_wp2_with (go_at_call 221;refine HD.out.1.mono ?_;rintro e w3 ⟨rfl,hR3,hK3⟩)
       go_meet
       have hc0:=HP1.out.2.2.2.2
       exact ⟨(B - 1) - (c1-A),1,_,by congr 1;omega,rfl,by omega,by omega,hR3,(HP1.out.2.1.trans HD.out.2.2 (fun _ _ e=>e.elim)).trans hK3 (fun _ _ e=>e),HP1.out.2.2.1.perm HD.out.2.1⟩
      | increasing =>
       have e2:hintCode .increasing=1:=rfl
       rw [e2]
       have HD:=Lib.hid (A2 hR2 hK2)
       clear hR2 hK2
       go_wp2
       go_meet
       exact ⟨c1,1,_,rfl,rfl,HP1.out.2.2.2.2.1,HP1.out.2.2.2.2.2,HD.out.1,HP1.out.2.1.trans HD.out.2 (fun _ _ e=>e.elim),HP1.out.2.2.1⟩
      | unknown =>
       have e2:hintCode .unknown=0:=rfl
       rw [e2]
       have HD:=Lib.hid (A2 hR2 hK2)
       clear hR2 hK2
       go_wp2
       go_meet
       exact ⟨c1,0,_,rfl,rfl,HP1.out.2.2.2.2.1,HP1.out.2.2.2.2.2,HD.out.1,HP1.out.2.1.trans HD.out.2 (fun _ _ e=>e.elim),HP1.out.2.2.1⟩
     case rest =>
      clear hR2 hK2
      obtain ⟨pivot,hc,d2,rfl,rfl,hpA,hpB,hR2,hK2,hRest2⟩:=hcut
      generalize wc=w3 at *
      have hpi:(pivot:Int)<=1099511627776:=by omega
      have hs2:=hRest2.size
      have HP2:=Lib.hid (A3 hR2 hK2 hRest2)
      clear hR2 hK2 hRest2
      go_upto_region 15 with fail
      go_cut [68] (fun v wx=>∃ pb:Bool,v=.bool pb/\wx=w3)
      case first =>
       have hcb:(hc==1)=true\/(hc==1)=false:=by cases (hc==1) <;> simp
       cases wb <;> cases wp <;> rcases hcb with hcb | hcb
       all_goals go_wp2
       all_goals go_meet
       all_goals first
        | exact ⟨true,rfl,rfl⟩
        | exact ⟨false,rfl,rfl⟩
      case rest =>
      obtain ⟨pb,rfl,hw3⟩:=hcut
      rw [hw3]
      clear hw3
      go_upto_if 68 with fail
      go_cut [] (fun wx=>∃ d3:Array Int,Zj wx g off d3/\Keep (·=g) w wx/\Rest a b d A B d3)
      case first =>
       have hpins:=pins_spec (cap:=cap) HP2.out.1 (a:=A) (b:=B) (by omega) (by omega) (by omega)
       rw [hs2] at hpins
       have hp:=partialInsertionSort_holds swo d2 A B (by omega) (by omega) HP2.out.2.2.below
       generalize partialInsertionSort ltInt d2 A B=r at *
       obtain ⟨d3,rb⟩:=r
       simp only [] at hpins hp
       have HD:=Lib.hid (A2 hpins hp)
       clear hpins hp
       cases pb with
       | true =>
        cases rb with
        | true =>
         go_wp2_with (go_at_call 222;refine HD.out.1.mono ?_;rintro e w4 ⟨rfl,hR4,hK4⟩)
         refine bodyPost_ret (results_none rfl _ _ _) rfl ?_
         have hd:=HP2.out.2.2.done _ HD.out.2.1 (HD.out.2.2 trivial)
         exact ⟨rfl,_,hd.1,hd.2,hR4,HP2.out.2.1.trans hK4 (fun _ _ e=>e)⟩
        | false =>
         go_wp2_with (go_at_call 222;refine HD.out.1.mono ?_;rintro e w4 ⟨rfl,hR4,hK4⟩)
         go_meet
         exact ⟨_,hR4,HP2.out.2.1.trans hK4 (fun _ _ e=>e),HP2.out.2.2.perm HD.out.2.1⟩
       | false =>
        go_wp2
        go_meet
        exact ⟨_,HP2.out⟩
      case rest =>
       obtain ⟨d3,hR3,hK3,hRest3⟩:=hcut
       generalize wc=w4 at *
       have hs3:=hRest3.size
       have hb3:=hRest3.bs
       obtain ⟨G,hG⟩:∃ G:Nat->Int,∀ t,G t=d3[t]!:=⟨fun t=>d3[t]!,fun _=>rfl⟩
       have hcw:∀ t,t<d.size->w4.cell? ⟨g,off+t,none⟩=some (.int .u64 (G t)):=fun t ht=>by rw [hG];exact hR3.cell (by omega)
       have HP3:=Lib.hid (A4 hR3 hK3 hRest3 hG)
       clear hR3 hK3 hRest3 hG
       go_upto_region 17 with fail
       go_cut [87] (fun v wx=>∃ tb:Bool,v=.bool tb/\(tb=true->0<A/\ltInt d3[A - 1]! d3[pivot]! = false)/\Keep No w4 wx)
       case first =>
        by_cases hA0:0<A
        ·have hA0i:(0:Int)<(A:Int):=by omega
         have hA1:A - 1<d.size:=by omega
         have hpd:pivot<d.size:=by omega
         go_quiet (first | (go_at_call 223;refine Calls.quiet_of_same (Zw _ _ _)))
         go_wp2
         go_meet
         refine ⟨!ltInt (G (A - 1)) (G pivot),by first | rfl | simp,fun ht=>⟨hA0,?_⟩,(Keep.refl _ _).drewN _⟩
         rw [<- HP3.out.2.2.2,<- HP3.out.2.2.2]
         simpa using ht
        ·have hA0i:¬(0:Int)<(A:Int):=by omega
         go_quiet (first | (go_at_call 223;refine Calls.quiet_of_same (Zw _ _ _)))
         go_wp2
         go_meet
         exact ⟨false,rfl,fun ht=>(by cases ht),(Keep.refl _ _).drewN _⟩
       case rest =>
        obtain ⟨tb,rfl,htb,k5⟩:=hcut
        generalize wc=w5 at *
        clear hcw
        have hR5:=HP3.out.1.keep k5 (fun e=>e)
        have hK5:=HP3.out.2.1.trans k5 (fun _ _ e=>e.elim)
        have hRest3:=HP3.out.2.2.1
        cases tb with
        | true =>
         obtain ⟨hA0,hnl⟩:=htb rfl
         have hpeq:=peq_spec (cap:=cap) hR5 hpA hpB (by omega) (by omega)
         rw [hs3] at hpeq
         rcases hr:partitionEqual ltInt d3 A B pivot with ⟨mid,d4⟩
         rw [hr] at hpeq
         simp only [] at hpeq
         obtain ⟨m1,m2,m3,m4,m5⟩:=round_eq swo (partitionEqual_holds ltInt) hA0 hpA hpB (by omega) hRest3.below hnl hr
         have hRest4:Rest a b d mid B d4:=⟨by rw [m3];exact hs3,m2,hbs,m4,fun R h1 h2=>hRest3.done R (m5 R h1 h2).1 (m5 R h1 h2).2⟩
         have HD:=Lib.hid (A3 hpeq hK5 hRest4)
         clear hpeq hK5 hR5 hRest4 hRest3 m3 m4 m5 hr hnl
         go_wp2_with (go_at_call 224;refine HD.out.1.mono ?_;rintro e w6 ⟨rfl,hR6,hK6⟩)
         go_roundw
         case rel=>exact ⟨mid,B,L1,wb,wp,d4,rfl,rfl,rfl,HP1.out.2.2.2.1,rfl,rfl,by have:=HP.out.2.2.2.1;omega,hR6,HD.out.2.1.trans hK6 (fun _ _ e=>e),HD.out.2.2⟩
         case measure=>simp [intOf];omega
        | false =>
         have hpart:=part_spec (cap:=cap) hR5 hpA hpB (by omega) (by omega)
         rw [hs3] at hpart
         rcases hr:partition ltInt d3 A B pivot with ⟨mid,ap,d4⟩
         rw [hr] at hpart
         simp only [] at hpart
         obtain ⟨p1,p2,p3,p4,p5,p6,p7⟩:=round_part swo (partition_holds ltInt) hpA hpB (by omega) hRest3.below hr
         have hs4:d4.size=d.size:=by rw [p3];exact hs3
         have hq8:(n:Int).tdiv 8=((n / 8:Nat):Int):=rfl
         have hmi:(mid:Int)<=1099511627776:=by omega
         have hABn:=HP.out.2.2.2.1
         by_cases hlr:mid-A<B-mid
         ·have hlri:(mid:Int) - (A:Int)<(B:Int) - (mid:Int):=by omega
          have hih:=fun (w6:World) (h6:Zj w6 g off d4)=>HIH.out w6 d4 A mid L1 (by omega) h6 p1 (by omega) (by rw [hs4];exact HSZ) HP1.out.2.2.2.1 p4
          simp only [hs4] at hih
          have hfin:∀ (w7:World) (d5:Array Int),PermIn A mid d4 d5->SortedIn ltInt A mid d5->Rest a b d (mid+1) B d5:=fun w7 d5 q1 q2 =>
           ⟨by rw [q1.1];exact hs4,by omega,hbs,(p6 d5 q1 q2).1,fun R h1 h2=>hRest3.done R ((p6 d5 q1 q2).2 R h1 h2).1 ((p6 d5 q1 q2).2 R h1 h2).2⟩
          have HD:=Lib.hid (A4 hpart hih hK5 hfin)
          clear hpart hih hK5 hR5 hRest3 hfin p3 p4 p5 p6 p7 hr
          go_wp2_with (first
           | (go_at_call 225;refine HD.out.1.mono ?_;rintro e w6 ⟨rfl,hR6,hK6⟩)
           | (go_at_call 211;refine (HD.out.2.1 _ hR6).mono ?_;rintro e w7 ⟨rfl,d5,q1,q2,hR7,hK7⟩))
          go_roundw
          case rel=>exact ⟨mid+1,B,L1,_,ap,d5,by go_num,rfl,rfl,HP1.out.2.2.2.1,rfl,rfl,by omega,hR7,(HD.out.2.2.1.trans hK6 (fun _ _ e=>e)).trans hK7 (fun _ _ e=>e),HD.out.2.2.2 w7 d5 q1 q2⟩
          case measure=>simp [intOf];omega
         ·have hlri:¬(mid:Int) - (A:Int)<(B:Int) - (mid:Int):=by omega
          have hih:=fun (w6:World) (h6:Zj w6 g off d4)=>HIH.out w6 d4 (mid+1) B L1 (by omega) h6 (by omega) (by omega) (by rw [hs4];exact HSZ) HP1.out.2.2.2.1 p5
          simp only [hs4] at hih
          have e1:((mid+1:Nat):Int)=(mid:Int)+1:=by omega
          simp only [e1] at hih
          have hfin:∀ (w7:World) (d5:Array Int),PermIn (mid+1) B d4 d5->SortedIn ltInt (mid+1) B d5->Rest a b d A mid d5:=fun w7 d5 q1 q2 =>
           ⟨by rw [q1.1];exact hs4,p1,by omega,(p7 d5 q1 q2).1,fun R h1 h2=>hRest3.done R ((p7 d5 q1 q2).2 R h1 h2).1 ((p7 d5 q1 q2).2 R h1 h2).2⟩
          have HD:=Lib.hid (A4 hpart hih hK5 hfin)
          clear hpart hih hK5 hR5 hRest3 hfin p3 p4 p5 p6 p7 hr e1
          go_wp2_with (first
           | (go_at_call 225;refine HD.out.1.mono ?_;rintro e w6 ⟨rfl,hR6,hK6⟩)
           | (go_at_call 211;refine (HD.out.2.1 _ hR6).mono ?_;rintro e w7 ⟨rfl,d5,q1,q2,hR7,hK7⟩))
          go_roundw
          case rel=>exact ⟨A,mid,L1,_,ap,d5,rfl,rfl,rfl,HP1.out.2.2.2.1,rfl,rfl,by omega,hR7,(HD.out.2.2.1.trans hK6 (fun _ _ e=>e)).trans hK7 (fun _ _ e=>e),HD.out.2.2.2 w7 d5 q1 q2⟩
          case measure=>simp [intOf];omega
end Go.Proofs.YtfdmbomlkpkegaaGreat
