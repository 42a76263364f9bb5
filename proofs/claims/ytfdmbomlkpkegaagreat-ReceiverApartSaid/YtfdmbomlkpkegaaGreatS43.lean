/- Lemmas. -/
import Derived.Test.YtfdmbomlkpkegaaGreatS42
set_option maxRecDepth 100000
set_option maxHeartbeats 8000000
set_option linter.all false
set_option autoImplicit true
set_option relaxedAutoImplicit true
open Go renaming undef->LW,yielded->AW
open Go.Act renaming put->AQ
open Go.Lib renaming hid->BX
open Go.Region renaming wanted->AV
open Go.World renaming alloc_drew->WO,size_drew->WN
open List renaming getElem?_eq_getElem->BY
open Nat renaming le_trans->BF
namespace Go.Proofs.YtfdmbomlkpkegaaGreat
open Go Go.RowKit Go.Dr Go.Shelf
theorem ZW[bn:Ib](hT:ban.top<=w.heap.size)(wd sg aT:Nat)(hv:Gu w.heap.size 13 (Cv w.heap.size w) v2 C) :
    Calls Tryz.prog 7 #[.int .u16 wd,.int .u16 sg,v2,.int .u8 aT] w λe E=>e=.returned (.bool true)/\Xy No w E:=by
  have bm:=hv;obtain⟨ao,cap,rfl,bb,bG,_⟩:=bm;have bF:=Lp (w:=w) hT;have al:(C.length:Int)<=9223372036854775807:=by unfold maxLen at bG;omega
  obtain⟨M,bL⟩:∃M:Nat,M=aT%16:=⟨_,rfl⟩;have bv:(aT:Int)%16=(M:Int):=by omega
  have ak:Int.tmod (aT:Int) 16=(M:Int):=by rw[bL];rfl
  have aW:M<16:=by omega
  have HT:=BX (A4 hT hv aW al);clear hT hv bb bG al bL aW;go_enter Tryz.func7,Tryz.ntmps7;go_upto_region 3 with(go_at_call 28;refine bF.mono ?_;rintro e w1 ⟨rfl,k1⟩);clear bF;have bM:=Dc (base:=w.heap.size) (w:=w1) wd sg k1.size (BF HT.out.1 k1.size);go_upto_region 6 with(go_at_call 29;refine bM.mono ?_;rintro e w2 ⟨P,R,X,q,p,r,xq,S,F,G,rfl,hP,am,bH,_,_,ai,k2⟩);clear bM;obtain⟨width,I⟩:∃n:Nat,n=1+wd%30:=⟨_,rfl⟩;obtain⟨size,aM⟩:∃n:Nat,n=1+sg%300:=⟨_,rfl⟩;rw[<- I,<- aM]at hP;rw[<- I]at am;have hz:(1:Int)<=(size:Int):=by omega
  have bB:w.heap.size<=P:=BF k1.size (ai P (.inl rfl));have HI:=BX (A3 (Ro.start hP am bH.2.1 (Fq _) (λb hb=>BF k1.size (ai b hb)) (k1.then k2)) hz bB);clear hP am bH ai k1 k2 I aM hz bB;go_wp2_with fail;go_loopw [31] (λar wr=>∃i:Nat,ar=.int .i64 (i:Nat)/\i<=C.length/\Ro w P width size (1+2*min i 25) wr) (λar _=>C.length-(intOf ar).toNat);case atStart=>exact⟨0,rfl,Nat.zero_le _,HI.out.1⟩
  case round =>
    obtain⟨i,rfl,hi,hW⟩:=hrel;have al:=HT.out.2.2.2;by_cases aE:i<C.length
    · have hx:C[i]?=some C[i]:=BY aE
      generalize C[i]=a at hx;obtain⟨g,o,bf,hA⟩:=Gu.at HT.out.2.1 hx;subst bf;obtain⟨fv,fi,aj,ah,V⟩:=hA.cells;obtain⟨fo,fc,rfl,bd,be⟩:=aj.form;obtain⟨io,ic,rfl,bh,bi⟩:=ah.form;have D:Xy No w wr:=hW.keep;have c0:=D.cell (V 0 (by decide)) id;have c1:=D.cell (V 1 (by decide)) id;have c2:=D.cell (V 2 (by decide)) id;have c3:=D.cell (V 3 (by decide)) id;have c4:=D.cell (V 4 (by decide)) id;have c5:=D.cell (V 5 (by decide)) id;have c6:=D.cell (V 6 (by decide)) id;have c7:=D.cell (V 7 (by decide)) id;have c8:=D.cell (V 8 (by decide)) id;have c9:=D.cell (V 9 (by decide)) id;have ax:=D.cell (V 10 (by decide)) id;have ay:=D.cell (V 11 (by decide)) id;have az:=D.cell (V 12 (by decide)) id;simp[Ty]at c0 c1 c2 c3 c4 c5 c6 c7 c8 c9 ax ay az;have bg:(i:Int)<(C.length:Int):=by omega
      have bu:IntKind.i64.wrap ((i:Int)+1)=((i+1:Nat):Int):=by rw[IntKind.wrap_i64];omega
      have bK:=hA.kind;have ac:=hA.num;have aL:=hA.kept;obtain⟨cs,aQ⟩:∃cs:Array Value,cs=Ty a.kd a.f (.slice fo a.f.runs.length fc) (.slice io a.f.items.length ic) a.on a.keep a.torn:=⟨_,rfl⟩;have kA:=(Xy.refl No wr).alloc (.cells cs 85);have z:=Qy wr (.cells cs 85);have bD:=hW.no kA;have hm:Int.tmod (a.kd:Int) 6=((a.kd%6:Nat):Int):=rfl;have O:=BX (A8 bD aj ah bK ac aL aE D);clear hW hA V hi hx kA aj ah bK ac aL bh bi bd be bD D;by_cases bA:25<=i
      · have q1:(25:Int)<=(i:Int):=by omega
        have HX:=BX (O.out.2.2.2.2.2.2.2.alloc (.cells cs 85));rw[aQ]at HX;unfold Ty at HX;clear bA aE hm z aQ O;go_wp2_with fail;go_ret;exact⟨rfl,HX.out⟩
      · have q1:¬(25:Int)<=(i:Int):=by omega
        have aX:min i 25=i:=by omega
        have aY:min (i+1) 25=i+1:=by omega
        rw[aX]at O;obtain⟨W,hW⟩:∃W,W=wr.alloc (.cells cs 85):=⟨_,rfl⟩;rw[<- hW]at z O;rw[aQ]at z hW;have ap:wr.heap.size<W.heap.size:=by rw[hW];simp
        obtain⟨bt,aI⟩:∃b,b=wr.heap.size:=⟨_,rfl⟩;have af:=O.out.2.2.2.2.2.2.2.size;rw[<- aI]at z ap af;have aG:Xy No w W:=O.out.1.keep;have d0:=Qq z 0;have d1:=Qq z 1;have d2:=Qq z 2;have d3:=Qq z 3;have d4:=Qq z 4;have d5:=Qq z 5;have d6:=Qq z 6;have d7:=Qq z 7;have d8:=Qq z 8;have d9:=Qq z 9;have Q:=Qq z 10;have T:=Qq z 11;have U:=Qq z 12;simp[Ty]at d0 d1 d2 d3 d4 d5 d6 d7 d8 d9 Q T U;have HM:=BX (A5 aE aY af ap aG);have au:=BX z;unfold Ty at hW;clear bA aE aQ aX aY z af ap aG;go_upto_region 11 with fail;rw[<- hW,<- aI];clear hW aI c0 c1 c2 c3 c4 c5 c6 c7 c8 c9 ax ay az;by_cases hk:2<a.kd%6
        · have q2:(2:Int)<(a.kd:Int)%6:=by omega
          have aD:=O.out.1.other (by have:=HM.out.1;omega) HI.out.2.1 HT.out.1 HI.out.2.2 a.f (.slice fo a.f.runs.length fc) (.slice io a.f.items.length ic) a.kd hk a.on a.keep a.torn O.out.qf;unfold Ty at aD;clear hk hm;go_wp2_with(go_at_call 35;refine aD.mono ?_;rintro e w3 ⟨rfl,bC⟩;have H3:=BX bC;clear bC);go_roundw;case rel=>exact⟨i+1,by go_num,HM.out.1,by rw[HM.out.2.1];exact H3.out.mono (by omega)⟩
          case measure=>have:=HM.out.1;simp[intOf];omega
        · have q2:¬(2:Int)<(a.kd:Int)%6:=by omega
          obtain⟨R,X,q,p,r,xq,S,o,F,G,h1,h2,h3,h4,h5,h6⟩:=O.out.1;have ak:a.kd%6<=2:=by omega
          have p0:=Qq h1.blk 0;simp at p0;have r0:=h1.rcv.led;have bO:=Rl h1.rcv;obtain⟨on,an⟩:∃n,o[M]?=some n:=⟨_,BY (by rw[h1.rcv.len];exact HT.out.qc)⟩;have HB:=BX (A4 (h1.led.winOf HT.out.qc).2 (λY (k:Xy No W Y)=>(h1.led.no k).floorOf HT.out.qc) (λY (k:Xy No W Y)=>Ei (h1.rcv.no k) HT.out.qc an) (λY (k:Xy No W Y)=>(h1.led.no k).incOf));have HQ:=BX (A8 h1 h2 h3 h4 h5 h6 an ak);clear h1 h2 h3 h4 h5 h6 an ak hk hm;go_upto_region 14 with(go_at_call 34;refine bO.mono ?_;rintro e w3 ⟨rfl,e3⟩;have e3:=e3.symm;subst e3);clear bO;go_cut [14,15,16,17] (λbp bq br bs wx=>∃aH,bp=.pointer (some ⟨aH,0,none⟩)/\bq=.int .u64 (S.L.floor M)/\br=.int .u8 on/\bs=.int .u64 S.L.inc/\Xf wx aH (S.L.win M)/\Xy No W wx/\W.heap.size<=aH);case first =>
            have kd:Xy No W W.drew:=(Xy.refl _ _).drew;refine Pa (λE=>Xy No W E) [0,1,3,4,6,7,8,9,10,12] [2,5,11,13] [15,16,17,18] 14 (by kernel_rfl) (by kernel_rfl) (λ_ _ _ _ _ h=>h) kd ?_;iterate 10(refine Qk (v:=?_) rfl rfl rfl ?_ ?_;rotate_left;focus(
              intro E m;have g0:=m.cell p0 id;have g1:=m.cell r0 id;go_simp
              try with_reducible rfl))
            refine Qj ?_;have A:=kd;clear kd;iterate 4(refine⟨?_,?_⟩;rotate_left;(refine Qx rfl rfl (λK j=>?_);go_simp;first
              | (with_reducible refine(HB.out.1 _ A).mono ?_;rintro e N ⟨u1,rfl,J,k6⟩;(try have Z:=k6.heap Z id);have A:=A.then k6;refine j _ _ A ?_;clear j K k6)
              | (with_reducible refine(HB.out.2.1 _ A).mono ?_;rintro e N ⟨rfl,e6⟩;subst e6;refine j _ _ A ?_;clear j K)
              | (with_reducible refine(HB.out.qc _ A).mono ?_;rintro e N ⟨rfl,e6⟩;subst e6;refine j _ _ A ?_;clear j K)
              | (with_reducible refine(HB.out.2.2.2 _ A).mono ?_;rintro e N ⟨rfl,e6⟩;subst e6;refine j _ _ A ?_;clear j K)
              | (with_reducible refine j _ _ A ?_;clear j K)
              | (have aq:=A;have aP:=A.size;have Z:=GU A (.cells #[.int .u64 0,.int .u64 0,.slice none 0 0] 92);(try simp only[WN]at Z);(try simp only[WN]at aP);(try have bS:=J);(try have J:=J.no ((Xy.refl No _).alloc (.cells #[.int .u64 0,.int .u64 0,.slice none 0 0] 92)));have A:=A.alloc (.cells #[.int .u64 0,.int .u64 0,.slice none 0 0] 92);(try simp only[WO]at A);(try simp only[WO]at Z);refine j _ _ A ?_;clear j K));refine Qh ?_)
            all_goals(try unfold Rn)
            all_goals(repeat (refine Qx rfl rfl (λK j=>?_);go_simp;first
              | (with_reducible refine(HB.out.1 _ A).mono ?_;rintro e N ⟨u1,rfl,J,k6⟩;(try have Z:=k6.heap Z id);have A:=A.then k6;refine j _ _ A ?_;clear j K k6)
              | (with_reducible refine(HB.out.2.1 _ A).mono ?_;rintro e N ⟨rfl,e6⟩;subst e6;refine j _ _ A ?_;clear j K)
              | (with_reducible refine(HB.out.qc _ A).mono ?_;rintro e N ⟨rfl,e6⟩;subst e6;refine j _ _ A ?_;clear j K)
              | (with_reducible refine(HB.out.2.2.2 _ A).mono ?_;rintro e N ⟨rfl,e6⟩;subst e6;refine j _ _ A ?_;clear j K)
              | (with_reducible refine j _ _ A ?_;clear j K)
              | (have aq:=A;have aP:=A.size;have Z:=GU A (.cells #[.int .u64 0,.int .u64 0,.slice none 0 0] 92);(try simp only[WN]at Z);(try simp only[WN]at aP);(try have bS:=J);(try have J:=J.no ((Xy.refl No _).alloc (.cells #[.int .u64 0,.int .u64 0,.slice none 0 0] 92)));have A:=A.alloc (.cells #[.int .u64 0,.int .u64 0,.slice none 0 0] 92);(try simp only[WO]at A);(try simp only[WO]at Z);refine j _ _ A ?_;clear j K)))
            all_goals
              refine Qh ?_;iterate 4(refine Qu rfl ?_)
              refine Qm ?_;obtain⟨o3,c3,rfl,bj⟩:=J.form;have q0:=Qq Z 0;have q1:=Qq Z 1;have q2:=Qq Z 2;have fB:=Qg Z;simp at q0 q1 q2;go_wp2_with fail;go_meet;first
                | (obtain⟨o4,c4,e4,bk⟩:=bS.form
                   simp at e4;obtain⟨rfl,rfl⟩:=e4
                   exact⟨_,rfl,rfl,rfl,rfl,⟨o3,c3,Qy _ _,bk.no ((Xy.refl No _).alloc _)⟩,aq.alloc _,aq.size⟩)
                | (obtain⟨hZ,kZ⟩:=Xf.ofV (x:=S.L.win M) Z bj
                   exact⟨_,rfl,rfl,rfl,rfl,hZ,A.trans kZ (λc V e=>by omega),aP⟩)
          case rest =>
            obtain⟨aH,rfl,rfl,rfl,rfl,aA,B,aU⟩:=hcut
            rename World=>W1
            have d0:=B.cell d0 id;have d1:=B.cell d1 id;have d2:=B.cell d2 id;have d3:=B.cell d3 id;have d4:=B.cell d4 id;have d5:=B.cell d5 id;have d6:=B.cell d6 id;have d7:=B.cell d7 id;have d8:=B.cell d8 id;have d9:=B.cell d9 id;have Q:=B.cell Q id;have T:=B.cell T id;have U:=B.cell U id;have bX:=BX (B.heap au.out id);have aF:=HM.out.2.2.2.2.then B;have aB:=Ay (base:=w.heap.size) a.f (O.out.2.1.no aF) (O.out.2.2.1.no aF) aF.size (BF HT.out.1 aF.size);obtain⟨rn,bP⟩:∃rn,rn=(a.f.runs.take 40).length:=⟨_,rfl⟩;obtain⟨aR,aV⟩:∃aR,aR=(My a.f.items).length:=⟨_,rfl⟩;have av:=BX (A2 bP aV);unfold Vy.cells at aB;dsimp only[Cq]at aB;have H1:=BX (A4 aA B aU aF);clear aA B aU aF bP aV HB;go_upto_region 16 with(go_at_call 41;refine aB.mono ?_;rintro e w4 ⟨bz,bw,rfl,bQ,bJ,k4⟩;obtain⟨bW,bV,bN,_,_⟩:=bQ.form;obtain⟨bU,bT,bI,_,_⟩:=bJ.form;rw[<- av.out.1]at bN;rw[<- av.out.2]at bI;subst bN bI);clear aB d0 d1 d2 d3 d4 d5 d6 d7 d8 d9 Q T U;obtain⟨W5,aN⟩:∃W5,W5=w4.alloc (.cells #[.int .u8 a.f.kind,.int .i64 a.f.agent,.int .u64 a.f.epoch,.int .u64 a.f.inc,.int .u64 a.f.base,.int .u64 a.f.cum,.int .u64 a.f.limit,.slice bW rn bV,.slice bU aR bT] 69):=⟨_,rfl⟩;have k5:Xy No w4 W5:=by rw[aN];exact(Xy.refl _ _).alloc _
            have ae:W5.heap[w4.heap.size]?=some (.cells #[.int .u8 a.f.kind,.int .i64 a.f.agent,.int .u64 a.f.epoch,.int .u64 a.f.inc,.int .u64 a.f.base,.int .u64 a.f.cum,.int .u64 a.f.limit,.slice bW rn bV,.slice bU aR bT] 69 (0,0)):=by rw[aN];exact Qy _ _
            rw[<- aN];clear aN;obtain⟨aw,aJ⟩:∃b,b=w4.heap.size:=⟨_,rfl⟩;rw[<- aJ]at ae⊢;have e1:=Qq ae 1;simp at e1;have aS:Xy No W W5:=(H1.out.2.1.then k4).then k5;have aG:=HM.out.2.2.2.2.then aS;have d:=(k4.then k5).heap bX.out id;have d0:=Qq d 0;have d1:=Qq d 1;have d2:=Qq d 2;have d3:=Qq d 3;have d4:=Qq d 4;have d5:=Qq d 5;have d6:=Qq d 6;have d7:=Qq d 7;have d8:=Qq d 8;have d9:=Qq d 9;have Q:=Qq d 10;have T:=Qq d 11;have U:=Qq d 12;simp[Ty]at d0 d1 d2 d3 d4 d5 d6 d7 d8 d9 Q T U;clear d;obtain⟨bx,S',o',hh,ho,ad,aD⟩:=GA (HQ.out.1.no aS) HQ.out.2.1 (by have:=HM.out.1;omega) aG HQ.out.qe (Nat.le_refl _) HT.out.1 a.f O.out.qd O.out.2.1 O.out.qe O.out.qc a.kd HQ.out.rh a.on a.keep a.torn;unfold Ty at aD;have bZ:W.heap.size<=aw:=by rw[aJ];exact(H1.out.2.1.then k4).size
            have ab:¬Mz R X F G aw:=λe=>by have:=HQ.out.1.feetLt e;omega
            have aZ:¬Mz R X F G aH:=λe=>by have:=HQ.out.1.feetLt e;have:=H1.out.qc;omega
            have H5:=BX (A8 (H1.out.1.keep (Zn.no _) (k4.then k5) id) aS aG hh ho ad ab aZ);have bY:=BX e1;clear k5 k4 ae aJ bZ ab aZ aS aG hh ho ad e1;go_upto_region 17 with(go_at_call 35;refine aD.mono ?_;rintro e N ⟨rfl,hd⟩);clear aD d0 d1 d2 d3 d4 d5 d6 d7 d8 d9 Q T U;have H:=hd.loop H5.out.qe (H5.out.2.2.2.2.2.1.owes HQ.out.2.1.okL HQ.out.1.rcv.len HQ.out.qc) (H5.out.2.2.2.1.room.trans HQ.out.qd) HQ.out.qe H5.out.qc;obtain⟨F',G',q6,k6,_,_⟩:=hd;have aA:=H5.out.1.keep (HQ.out.1.no H5.out.2.1).feetR k6 H5.out.rh;have e1:=k6.cell bY.out H5.out.qg;obtain⟨bo,bc,aK,ag⟩:=aA;have z0:=Qq aK 0;have z1:=Qq aK 1;have z2:=Qq aK 2;have p0:=Qq q6.blk 0;simp at z0 z1 z2 p0;have r0:=q6.rcv.led;have aC:=H5.out.2.2.2.2.2.1.incs;have kd:Xy No N N.drew:=(Xy.refl _ _).drew;by_cases bE:a.f.agent=(M:Int)
            · have H6:=BX (A2 H (λY (k:Xy No N Y)=>(q6.led.no k).incOf))
              rw[aC]at H6;clear aK ag H q6 k6 aC;refine Vr (λE=>Xy No N E) [([0,1,2,3,4,5,6,8],[7,9]),([10,11,12,13,15],[14]),([16,17,18,19,20,21,22,23,25],[24]),([26,27,28,29,30,32],[31]),([33,34],[])] (by kernel_rfl) (by kernel_rfl) (λ_ _ _ _ _ h=>h) kd ?_;iterate 5(refine Qk (v:=?_) rfl rfl rfl ?_ ?_;rotate_left;focus(
                intro E m;have g0:=m.cell e1 id;have g1:=m.cell p0 id;have g2:=m.cell r0 id;have g3:=m.cell z0 id;have g4:=m.cell z1 id;have g5:=m.cell z2 id;go_simp
                try with_reducible rfl))
              iterate 3(refine Sh rfl rfl (by first|kernel_rfl|simp[AV,AW,AQ,LW]) ?_)
              refine Qj ?_;refine Tu rfl (by first|kernel_rfl|simp[AV,AW,AQ,LW]) kd ?_;refine Tu rfl (by first|kernel_rfl|simp[AV,AW,AQ,LW]) kd ?_;refine Qh ?_;iterate 5(refine Sh rfl rfl (by first|kernel_rfl|simp[AV,AW,AQ,LW]) ?_)
              refine Qj ?_;refine Tu rfl (by first|kernel_rfl|simp[AV,AW,AQ,LW]) kd ?_;refine Qh ?_;iterate 9(refine Sh rfl rfl (by first|kernel_rfl|simp[AV,AW,AQ,LW]) ?_)
              refine Qj ?_;refine Tu rfl (by first|kernel_rfl|simp[AV,AW,AQ,LW]) kd ?_;refine Qh ?_;iterate 2(refine Sh rfl rfl (by first|kernel_rfl|simp[AV,AW,AQ,LW]) ?_)
              iterate 2(refine Qk (v:=?_) rfl rfl rfl ?_ ?_;rotate_left;focus(
                intro E m;go_simp
                try with_reducible rfl))
              iterate 2(refine Qe (v:=?_) rfl rfl (by first|kernel_rfl|simp[AV,AW,AQ,LW]) ?_ ?_;rotate_left;focus(
                intro E m;go_simp
                try with_reducible rfl))
              refine Qj ?_;refine Za rfl (by first|kernel_rfl|simp[AV,AW,AQ,LW]) (λK j=>?_);go_simp;refine(H6.out.2 _ kd).mono ?_;rintro e w9⟨rfl,e9⟩;subst e9;refine j _ _ kd ?_;clear j K;refine Qh ?_;iterate 1(refine Qe (v:=?_) rfl rfl (by first|kernel_rfl|simp[AV,AW,AQ,LW]) ?_ ?_;rotate_left;focus(
                intro E m;go_simp
                try with_reducible rfl))
              iterate 1(refine Qk (v:=?_) rfl rfl rfl ?_ ?_;rotate_left;focus(
                intro E m;go_simp
                try with_reducible rfl))
              refine Qj ?_;refine Qh ?_;unfold Vp;go_wp2_with fail;go_roundw;case rel=>exact⟨i+1,by go_num,HM.out.1,by rw[HM.out.2.1];exact(H6.out.1.no kd).mono (by omega)⟩
              case measure=>have:=HM.out.1;simp[intOf];omega
            · have aO:=H5.out.2.2.2.2.2.1.apart (k:=M) bE
              have H6:=BX (A6 H (λY (k:Xy No N Y)=>(q6.led.no k).incOf) (q6.led.winOf HT.out.qc) (λY (k:Xy No N Y)=>(q6.led.no k).floorOf HT.out.qc) (λY (k:Xy No N Y)=>Ei (q6.rcv.no k) HT.out.qc (aO.2.2.trans HQ.out.qg)) ag);rw[aC,aO.1,aO.2.1]at H6;have n1:(a.f.agent != (M:Int))=true:=by simp[bE]
              clear aK ag H q6 k6 aC aO;refine Vr (λE=>Xy No N E) [([0,1,2,3,4,5,6,8],[7,9]),([10,11,12,13,15],[14]),([16,17,18,19,20,21,22,23,25],[24]),([26,27,28,29,30,32],[31]),([33,34],[])] (by kernel_rfl) (by kernel_rfl) (λ_ _ _ _ _ h=>h) kd ?_;iterate 5(refine Qk (v:=?_) rfl rfl rfl ?_ ?_;rotate_left;focus(
                intro E m;have g0:=m.cell e1 id;have g1:=m.cell p0 id;have g2:=m.cell r0 id;have g3:=m.cell z0 id;have g4:=m.cell z1 id;have g5:=m.cell z2 id;go_simp
                try with_reducible rfl))
              iterate 3(refine Qe (v:=?_) rfl rfl (by first|kernel_rfl|simp[AV,AW,AQ,LW]) ?_ ?_;rotate_left;focus(
                intro E m;have g0:=m.cell e1 id;have g1:=m.cell p0 id;have g2:=m.cell r0 id;have g3:=m.cell z0 id;have g4:=m.cell z1 id;have g5:=m.cell z2 id;go_simp
                try with_reducible rfl))
              refine Qj ?_;refine Za rfl (by first|kernel_rfl|simp[AV,AW,AQ,LW]) (λK j=>?_);go_simp;refine(H6.out.2.2.1.2 _ kd).mono ?_;rintro e w7⟨u7,rfl,bl,k7⟩;have k7:=kd.then k7;refine j _ _ k7 ?_;clear j K;refine Za rfl (by first|kernel_rfl|simp[AV,AW,AQ,LW]) (λK j=>?_);go_simp;have bR:=Lm bl (show Nf _ (.agg #[.int .u64 (S.L.win M).low,.int .u64 (S.L.win M).width,.slice bo (S.L.win M).set.length bc]) (S.L.win M)from⟨_,rfl,H6.out.2.2.2.2.2.no k7⟩) H6.out.2.2.1.1.few H6.out.2.2.1.1.few;rw[decide_eq_true rfl]at bR;refine bR.mono ?_;rintro e w8⟨rfl,k8⟩;have kz:=k7.then k8;refine j _ _ kz ?_;clear j K;refine Qh ?_;iterate 5(refine Qe (v:=?_) rfl rfl (by first|kernel_rfl|simp[AV,AW,AQ,LW]) ?_ ?_;rotate_left;focus(
                intro E m;go_simp
                try with_reducible rfl))
              refine Qj ?_;refine Za rfl (by first|kernel_rfl|simp[AV,AW,AQ,LW]) (λK j=>?_);go_simp;refine(H6.out.qd _ kz).mono ?_;rintro e w9⟨rfl,e9⟩;subst e9;refine j _ _ kz ?_;clear j K;refine Qh ?_;iterate 9(refine Qe (v:=?_) rfl rfl (by first|kernel_rfl|simp[AV,AW,AQ,LW]) ?_ ?_;rotate_left;focus(
                intro E m;have g0:=m.cell e1 id;have g1:=m.cell p0 id;have g2:=m.cell r0 id;have g3:=m.cell z0 id;have g4:=m.cell z1 id;have g5:=m.cell z2 id;go_simp
                try with_reducible rfl))
              refine Qj ?_;refine Za rfl (by first|kernel_rfl|simp[AV,AW,AQ,LW]) (λK j=>?_);go_simp;refine(H6.out.qe _ kz).mono ?_;rintro e w9⟨rfl,e9⟩;subst e9;refine j _ _ kz ?_;clear j K;refine Qh ?_;iterate 2(refine Qe (v:=?_) rfl rfl (by first|kernel_rfl|simp[AV,AW,AQ,LW]) ?_ ?_;rotate_left;focus(
                intro E m;go_simp
                try with_reducible rfl))
              iterate 2(refine Qk (v:=?_) rfl rfl rfl ?_ ?_;rotate_left;focus(
                intro E m;go_simp
                try with_reducible rfl))
              iterate 2(refine Qe (v:=?_) rfl rfl (by first|kernel_rfl|simp[AV,AW,AQ,LW]) ?_ ?_;rotate_left;focus(
                intro E m;go_simp
                try with_reducible rfl))
              refine Qj ?_;refine Za rfl (by first|kernel_rfl|simp[AV,AW,AQ,LW]) (λK j=>?_);go_simp;refine(H6.out.2.1 _ kz).mono ?_;rintro e w9⟨rfl,e9⟩;subst e9;refine j _ _ kz ?_;clear j K;refine Qh ?_;iterate 1(refine Qe (v:=?_) rfl rfl (by first|kernel_rfl|simp[AV,AW,AQ,LW]) ?_ ?_;rotate_left;focus(
                intro E m;go_simp
                try with_reducible rfl))
              iterate 1(refine Qk (v:=?_) rfl rfl rfl ?_ ?_;rotate_left;focus(
                intro E m;go_simp
                try with_reducible rfl))
              refine Qj ?_;refine Qh ?_;unfold Vp;go_wp2_with fail;go_roundw;case rel=>exact⟨i+1,by go_num,HM.out.1,by rw[HM.out.2.1];exact(H6.out.1.no kz).mono (by omega)⟩
              case measure=>have:=HM.out.1;simp[intOf];omega
    · have bg:¬(i:Int)<(C.length:Int):=by omega
      have HX:=BX hW.keep;clear hW hi aE;go_wp2_with fail;go_ret;exact⟨rfl,HX.out⟩
end Go.Proofs.YtfdmbomlkpkegaaGreat
