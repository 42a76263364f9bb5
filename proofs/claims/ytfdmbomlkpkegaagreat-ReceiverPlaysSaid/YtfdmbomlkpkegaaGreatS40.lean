/- Lemmas. -/
import Derived.ChangeKeysEq
import Derived.Test.YtfdmbomlkpkegaaGreatS36
set_option maxRecDepth 100000
set_option maxHeartbeats 8000000
set_option linter.all false
set_option autoImplicit true
set_option relaxedAutoImplicit true
open Go renaming Calls->DJ,Value->AM,World->AC
open Go.Instr renaming index->WH
open Go.IntKind renaming wrap_i64->PO
open Go.Lib renaming hid->BX
open Go.Op renaming eqItems->WL,equalIn->WI
open Go.RowKit renaming intOf->C0
open Go.Value renaming int->DA
open Go.World renaming size_alloc->FE
open List renaming append_nil->B5,getD_eq_getElem?_getD->WD,getElem?_eq_getElem->BY,getElem?_eq_none->WM,getElem?_eq_some_iff->BK,getElem?_map->CK,getElem?_modify->HU,length_map->D6,mem_of_getElem?->FB,mem_of_mem_take->WJ,mem_range->Pl,range->Pi,replicate->BT,setIfInBounds_toArray->WF,set_cons_succ->OI,set_cons_zero->WG
open List.Pairwise renaming sublist->WK
open Nat renaming le_refl->BE,le_trans->BF,zero_le->BW
open Option renaming none->AI,some->AF
namespace Go.Proofs.YtfdmbomlkpkegaaGreat
open Go Go.RowKit Go.Dr Go.Shelf
def Sg (w:AC)(B:Nat)(v:AM)(l:List Vy):Prop :=
 ∃xs:List (Vy×AM),xs.map (·.1)=l/\(∀x∈xs,Zy w x.2 x.1.runs)/\w.ownsRow B 69 9 v l.length (xs.flatMap λx=>(x.1.cells x.2 (.slice AI 0 0)).toList)
theorem Sg.nil(w:AC)(B:Nat):Sg w B (.slice AI 0 0) []:=⟨[],rfl,λx d=>by simp at d,World.ownsRow_nil _ _ _ _⟩
theorem Sg.form(h:Sg w B v l):∃ao cap,v=.slice ao l.length cap/\l.length<=cap/\cap<=maxLen:=by obtain⟨xs,_,_,d⟩:=h;exact Kj d
theorem Sg.kind(h:Sg w B v l):∀b,v.ownBlock=AF b->B<=b/\∃d,w.heap[b]?=AF (.cells d 69 (0,0)):=by obtain⟨xs,_,_,f⟩:=h;exact Qa f
theorem Sg.keep(h:Sg w B v l)(hF:Zn w F)(k:Xy F w w')(i:∀b,v.ownBlock=AF b->¬F b):Sg w' B v l:=by obtain⟨xs,d,f,g⟩:=h;exact⟨xs,d,λx m=>(f x m).keep hF k,Yu g k i⟩
theorem Sg.no(h:Sg w B v l)(k:Xy No w w'):Sg w' B v l:=h.keep (Zn.no _) k (λ_ _ e=>e)
theorem TS:(Tryz.prog.info? 69).map (λi=>(i.zero,i.size,i.bytes))=AF (AF (.agg #[.int .u8 0,.int .i64 0,.int .u64 0,.int .u64 0,.int .u64 0,.int .u64 0,.int .u64 0,.slice AI 0 0,.slice AI 0 0]),9,104):=by kernel_rfl
theorem Ma(hg:o.guard=AI)(s x:Operand)(ho:o.op=.call {callee:=.builtin .append,args:=#[s,x],argTypes:=#[75,75]})(h:Sg w B v l)(hs:a.eval s=v)(V:w.heap[D]?=AF (.cells (y.cells u (.slice AI 0 0)) 69 (0,0)))(hx:a.eval x=.slice (AF ⟨D,0,AI⟩) 1 1)(J:Zy w u y.runs)(hl:l.length<=1000)(m:B<=w.heap.size)(X:∀M L w',Sg w' B (.slice M (l.length+1) L) (l++[y])->Xy (λb=>v.ownBlock=AF b) w w'->wpList Tryz.prog i Q rest (a.put o.dst (.slice M (l.length+1) L)) w'):wpList Tryz.prog i Q (o::rest) a w:=by
 have O:=h;obtain⟨xs,P,T,U⟩:=h;obtain⟨i0,A,E,G,I⟩:=info_parts TS;obtain⟨uo,uc,C,_,_⟩:=J.form;refine wpList_plain hg λK n=>?_;refine wp_append_lies w s x 75 ho B 69 i0 _ 9 104 Tryz.underlying75 A E G I rfl (by decide) v l.length _ hs U
  ⟨D,0,AI⟩ 1 1 (y.cells u (.slice AI 0 0)).toList hx (by simp[Vy.cells]) (World.news_of_block V) (λq d=>by
   rw[C]at d;simp[Vy.cells]at d
   rcases d with rfl|rfl|rfl|rfl|rfl|rfl|rfl|rfl|rfl<;>rfl) (by omega) (by unfold maxLen;omega) (by omega) m w.heap.size rfl ?_
 intro g cap w' f z Y aA;have k:=Jr z;have hF:Zn w (λb=>v.ownBlock=AF b):=λb Z hr=>by
  obtain⟨_,N,hz⟩:=O.kind b Z;obtain⟨cs,fr,e⟩:=hr;rw[hz]at e;simp at e
 refine n _ _ (X _ _ _ ⟨xs++[(y,u)],by simp[P],λq d=>?_,?_⟩ k)
 ·rcases List.mem_append.1 d with d|d
  ·exact(T q d).keep hF k
  ·rw[List.mem_singleton.1 d];exact J.keep hF k
 ·rw[List.flatMap_append,List.length_append];simpa using f
def Tq (L:Xs)(o:List Nat)(a:Nat):Vy:=⟨o.getD a 0,a,L.floor a,L.inc,0,(L.win a).low,(L.win a).low+(L.win a).width,(L.win a).set.take 32,[]⟩
def Sw (L:Xs)(o:List Nat)(k:Nat):List Vy:=((Pi k).filter (λa=>o.getD a 0 != 0)).map (Tq L o)
theorem Lt(L:Xs)(o:List Nat)(k:Nat):Sw L o (k+1)=Sw L o k++(if o.getD k 0=0 then[]else[Tq L o k]):=by
 unfold Sw;rw[List.range_succ,List.filter_append,List.map_append];congr 1;by_cases h:o.getD k 0=0
 ·rw[if_pos h,List.filter_cons_of_neg (by simpa using h)];rfl
 ·rw[if_neg h,List.filter_cons_of_pos (by simpa using h)];rfl
theorem Mk(L:Xs)(o:List Nat)(k:Nat):(Sw L o k).length<=k:=by unfold Sw;rw[D6];exact BF (List.length_filter_le _ _) (by simp)
def Sc (w:AC)(R:Nat):AC:=((((((((((((((((w.setCell ⟨R,1,AI⟩ (.int .u8 0)).setCell ⟨R,2,AI⟩ (.int .u8 0)).setCell ⟨R,3,AI⟩ (.int .u8 0)).setCell ⟨R,4,AI⟩ (.int .u8 0)).setCell ⟨R,5,AI⟩ (.int .u8 0)).setCell ⟨R,6,AI⟩ (.int .u8 0)).setCell ⟨R,7,AI⟩ (.int .u8 0)).setCell ⟨R,8,AI⟩ (.int .u8 0)).setCell ⟨R,9,AI⟩ (.int .u8 0)).setCell ⟨R,10,AI⟩ (.int .u8 0)).setCell ⟨R,11,AI⟩ (.int .u8 0)).setCell ⟨R,12,AI⟩ (.int .u8 0)).setCell ⟨R,13,AI⟩ (.int .u8 0)).setCell ⟨R,14,AI⟩ (.int .u8 0)).setCell ⟨R,15,AI⟩ (.int .u8 0)).setCell ⟨R,16,AI⟩ (.int .u8 0))
theorem YU(h:w.heap[R]?=AF (.cells (Sm q (2::BT 15 0)) 193 (0,0))):(Sc w R).heap[R]?=AF (.cells (Sm q (BT 16 0)) 193 (0,0)):=by have h:w.heap[R]?=AF (.cells #[.pointer (AF ⟨q,0,AI⟩),.int .u8 2,.int .u8 0,.int .u8 0,.int .u8 0,.int .u8 0,.int .u8 0,.int .u8 0,.int .u8 0,.int .u8 0,.int .u8 0,.int .u8 0,.int .u8 0,.int .u8 0,.int .u8 0,.int .u8 0,.int .u8 0] 193 (0,0)):=h;have A:=Qz (i:=1) (u:=.int .u8 0) h;simp only[WF,WG,OI]at A;have B:=Qz (i:=2) (u:=.int .u8 0) A;simp only[WF,WG,OI]at B;have C:=Qz (i:=3) (u:=.int .u8 0) B;simp only[WF,WG,OI]at C;have D:=Qz (i:=4) (u:=.int .u8 0) C;simp only[WF,WG,OI]at D;have E:=Qz (i:=5) (u:=.int .u8 0) D;simp only[WF,WG,OI]at E;have G:=Qz (i:=6) (u:=.int .u8 0) E;simp only[WF,WG,OI]at G;have I:=Qz (i:=7) (u:=.int .u8 0) G;simp only[WF,WG,OI]at I;have J:=Qz (i:=8) (u:=.int .u8 0) I;simp only[WF,WG,OI]at J;have K:=Qz (i:=9) (u:=.int .u8 0) J;simp only[WF,WG,OI]at K;have d:=Qz (i:=10) (u:=.int .u8 0) K;simp only[WF,WG,OI]at d;have f:=Qz (i:=11) (u:=.int .u8 0) d;simp only[WF,WG,OI]at f;have g:=Qz (i:=12) (u:=.int .u8 0) f;simp only[WF,WG,OI]at g;have k:=Qz (i:=13) (u:=.int .u8 0) g;simp only[WF,WG,OI]at k;have m:=Qz (i:=14) (u:=.int .u8 0) k;simp only[WF,WG,OI]at m;have n:=Qz (i:=15) (u:=.int .u8 0) m;simp only[WF,WG,OI]at n;have z:=Qz (i:=16) (u:=.int .u8 0) n;simp only[WF,WG,OI]at z;exact z
theorem Fl(w:AC)(R:Nat):Xy (·=R) w (Sc w R):=by unfold Sc;exact(Xy.setCell (F:=(·=R)) (Xy.setCell (F:=(·=R)) (Xy.setCell (F:=(·=R)) (Xy.setCell (F:=(·=R)) (Xy.setCell (F:=(·=R)) (Xy.setCell (F:=(·=R)) (Xy.setCell (F:=(·=R)) (Xy.setCell (F:=(·=R)) (Xy.setCell (F:=(·=R)) (Xy.setCell (F:=(·=R)) (Xy.setCell (F:=(·=R)) (Xy.setCell (F:=(·=R)) (Xy.setCell (F:=(·=R)) (Xy.setCell (F:=(·=R)) (Xy.setCell (F:=(·=R)) (Xy.setCell (F:=(·=R)) (Xy.refl _ _) (p:=⟨R,1,AI⟩) (.inl rfl) _) (p:=⟨R,2,AI⟩) (.inl rfl) _) (p:=⟨R,3,AI⟩) (.inl rfl) _) (p:=⟨R,4,AI⟩) (.inl rfl) _) (p:=⟨R,5,AI⟩) (.inl rfl) _) (p:=⟨R,6,AI⟩) (.inl rfl) _) (p:=⟨R,7,AI⟩) (.inl rfl) _) (p:=⟨R,8,AI⟩) (.inl rfl) _) (p:=⟨R,9,AI⟩) (.inl rfl) _) (p:=⟨R,10,AI⟩) (.inl rfl) _) (p:=⟨R,11,AI⟩) (.inl rfl) _) (p:=⟨R,12,AI⟩) (.inl rfl) _) (p:=⟨R,13,AI⟩) (.inl rfl) _) (p:=⟨R,14,AI⟩) (.inl rfl) _) (p:=⟨R,15,AI⟩) (.inl rfl) _) (p:=⟨R,16,AI⟩) (.inl rfl) _)
theorem JQ(X:AC)(cs:Array AM)(a n:Nat)(g:a<16)(h:cs[a]?=AF (.int .u8 n)):(WH 191 (.agg cs) (.int .i64 a)).run Tryz.prog X=.ok (.int .u8 n) X:=by
 have d:(0:Int)<=(a:Int):=by omega
 have f:(a:Int)<16:=by omega
 simp[WH,run_underlying Tryz.underlying191,asIntOf,d,f,go_sem,g,h]
theorem RW(w:AC):(WI 10000 191 (.agg #[.int .u8 0,.int .u8 0,.int .u8 0,.int .u8 0,.int .u8 0,.int .u8 0,.int .u8 0,.int .u8 0,.int .u8 0,.int .u8 0,.int .u8 0,.int .u8 0,.int .u8 0,.int .u8 0,.int .u8 0,.int .u8 0]) (.agg #[.int .u8 0,.int .u8 0,.int .u8 0,.int .u8 0,.int .u8 0,.int .u8 0,.int .u8 0,.int .u8 0,.int .u8 0,.int .u8 0,.int .u8 0,.int .u8 0,.int .u8 0,.int .u8 0,.int .u8 0,.int .u8 0])).run Tryz.prog w=.ok true w:=by kernel_rfl
theorem T4(w:AC):(WI 10000 191 (.agg #[.int .u8 2,.int .u8 0,.int .u8 0,.int .u8 0,.int .u8 0,.int .u8 0,.int .u8 0,.int .u8 0,.int .u8 0,.int .u8 0,.int .u8 0,.int .u8 0,.int .u8 0,.int .u8 0,.int .u8 0,.int .u8 0]) (.agg #[.int .u8 0,.int .u8 0,.int .u8 0,.int .u8 0,.int .u8 0,.int .u8 0,.int .u8 0,.int .u8 0,.int .u8 0,.int .u8 0,.int .u8 0,.int .u8 0,.int .u8 0,.int .u8 0,.int .u8 0,.int .u8 0])).run Tryz.prog w=.ok false w:=by kernel_rfl
section
variable [bn:Ib]{base:Nat}{w w':AC}{R q p width j:Nat}{size:Int}{o:List Nat}{S S':S16}{F:Nat->Prop}
theorem JO(A:Su base w R q (BT 16 0)):DJ Tryz.prog 32 #[.pointer (AF ⟨R,0,AI⟩)] w λz w'=>z=.returned (.slice AI 0 0)/\w'=w:=by have c:=λi=>Qq A.blk i;have B:=c 1;have C:=c 2;have D:=c 3;have E:=c 4;have G:=c 5;have I:=c 6;have J:=c 7;have K:=c 8;have L:=c 9;have d:=c 10;have f:=c 11;have g:=c 12;have h:=c 13;have k:=c 14;have m:=c 15;have n:=c 16;simp[Sm]at B C D E G I J K L d f g h k m n;have M:=RW;clear c A;go_enter Tryz.func32,Tryz.ntmps32;go_wp2_with fail;go_ret;exact⟨rfl,rfl⟩
def Nt (base:Nat)(w wr:AC)(L:Xs)(o:List Nat)(k:Nat)(v:AM):Prop :=
 Sg wr w.heap.size v (Sw L o k)/\Xy No w wr
theorem Av(L:Xs)(a:Nat):L.sync.floor a=L.floor a:=by unfold Xs.floor Xs.sync;rw[CK];cases L.ag[a]?<;>rfl
theorem Ui.safeOf(h:Ui base w q p width size S.sync F)(z:a<16):(S.L.win a).Ok/\DJ Tryz.prog 77 #[.pointer (AF ⟨q,0,AI⟩),.int .i64 a] w λe w'=>∃u,e=.returned u/\Nf w' u (S.L.win a)/\Xy No w w':=by
 obtain⟨g,m,lv,n,s,wv,C,B,k,_⟩:=h;obtain⟨x,A,f,_,_⟩:=k.ok.at z;have e:(S.L.ag[a]?).map (λg=>{g with safe:=g.now})=AF x:=by rw[<- CK];exact A
 cases i:S.L.ag[a]? with
 | none =>
  rw[i]at e;cases e
 | some y =>
  rw[i]at e;simp only[Option.map_some,Option.some.injEq]at e;subst e;have d:S.L.win a=y.now:=by unfold Xs.win;rw[i]
  rw[d];exact⟨f.now,TG k.led z A⟩
theorem UN(hl:Ui base w q p width size S F)(hr:Su base w R q (2::BT 15 0))(hb:base<=w.heap.size):DJ Tryz.prog 32 #[.pointer (AF ⟨R,0,AI⟩)] w λz w'=>∃v,z=.returned v/\Sg w' w.heap.size v (Sw S.L (2::BT 15 0) 16)/\So base w R q p width size S.sync (BT 16 0) F w':=by
 have c:=λi=>Qq hr.blk i;have c0:=c 0;have c1:=c 1;have c2:=c 2;have c3:=c 3;have c4:=c 4;have c5:=c 5;have c6:=c 6;have c7:=c 7;have c8:=c 8;have c9:=c 9;have U:=c 10;have V:=c 11;have Y:=c 12;have Z:=c 13;have aA:=c 14;have aB:=c 15;have aC:=c 16;simp[Sm]at c0 c1 c2 c3 c4 c5 c6 c7 c8 c9 U V Y Z aA aB aC;have hq:=T4;have ae:=hl.sync hb;have HH:=BX (A3 hl hr hb);clear c hl hr hb;go_enter Tryz.func32,Tryz.ntmps32;go_upto_region 3 with fail;go_upto_region 4 with(go_at_call 23;refine ae.mono ?_;rintro e w1 ⟨rfl,F1,aX,B,ab⟩);have d:=HH.out.2.1.byLed HH.out.1;have c0:=B.cell c0 d;have c1:=B.cell c1 d;have c2:=B.cell c2 d;have c3:=B.cell c3 d;have c4:=B.cell c4 d;have c5:=B.cell c5 d;have c6:=B.cell c6 d;have c7:=B.cell c7 d;have c8:=B.cell c8 d;have c9:=B.cell c9 d;have U:=B.cell U d;have V:=B.cell V d;have Y:=B.cell Y d;have Z:=B.cell Z d;have aA:=B.cell aA d;have aB:=B.cell aB d;have aC:=B.cell aC d;have HA:=BX (A4 aX B ab d);clear aX B ab d hq ae;go_upto_region 5 with fail;go_cut [25,26] (λay T wx=>∃cs:Array AM,ay=.agg cs/\T=.int .i64 0/\(∀a:Nat,a<16->cs[a]?=AF (.int .u8 (((2::BT 15 0).getD a 0:Nat):Int)))/\cs.size=16/\wx=w1);case first =>go_wp2_with fail;go_meet;refine⟨_,rfl,rfl,λa ha=>?_,rfl,rfl⟩;rcases(by omega:a=0\/a=1\/a=2\/a=3\/a=4\/a=5\/a=6\/a=7\/a=8\/a=9\/a=10\/a=11\/a=12\/a=13\/a=14\/a=15)with rfl|rfl|rfl|rfl|rfl|rfl|rfl|rfl|rfl|rfl|rfl|rfl|rfl|rfl|rfl|rfl<;>rfl
 case rest =>
  obtain⟨cs,rfl,rfl,aO,af,rfl⟩:=hcut
  rename AC=>w5
  obtain⟨o,ho⟩:∃o:List Nat,o=2::BT 15 0:=⟨_,rfl⟩;rw[<- ho]at aO;have HO:=BX ho;have HC:=BX (A2 aO af);clear ho aO af c1 c2 c3 c4 c5 c6 c7 c8 c9 U V Y Z aA aB aC;go_upto_block 0 with fail;go_cut [3] (λv3 wx=>Nt w.heap.size w5 wx S.L o 16 v3);case first =>
   go_wp2_with fail;go_loopw [3,26] (λv3 T wr=>∃a:Nat,T=.int .i64 a/\a<=16/\Nt w.heap.size w5 wr S.L o a v3) (λv3 T _=>16-(C0 T).toNat);case atStart=>exact⟨0,rfl,by decide,Sg.nil _ _,Xy.refl _ _⟩
   case round =>
    obtain⟨a,rfl,ha,hI⟩:=hrel;by_cases G:a<16
    ·have au:(a:Int)<16:=by omega
     obtain⟨n,hn⟩:∃n,n=o.getD a 0:=⟨_,rfl⟩;have aE:=HC.out.1 a G;rw[<- hn]at aE;have bD:=λX=>JQ X cs a n G aE;have J:=Lt S.L o a;rw[<- hn]at J;have bC:IntKind.i64.wrap ((a:Int)+1)=((a+1:Nat):Int):=by rw[PO];omega
     by_cases hz:n=0
     ·subst hz;rw[if_pos rfl,B5]at J;have f:=BX (A3 hI G J);clear hI G J aE hn;go_wp2_with fail;go_roundw;case rel=>exact⟨a+1,by go_num,f.out.2.1,by unfold Nt;rw[f.out.2.2];exact f.out.1⟩
      case measure=>have:=f.out.2.1;simp[C0];omega
     ·have bE:((n:Int)==0)=false:=by simp;omega
      have az:¬(n:Int)=0:=by omega
      rw[if_neg hz]at J;obtain⟨E,kr⟩:=hI;obtain⟨vo,vc,rfl,_,_⟩:=E.form;have aP:=HA.out.1.no kr;obtain⟨aN,ax⟩:=aP.safeOf G;have c0:=kr.cell c0 id;have f:=BX (A7 E kr G J aP aN hn);clear E kr G J aP aN hn hz aE ha;go_upto_region 10 with(go_at_call 77;refine ax.mono ?_;rintro e w6 ⟨u,rfl,hu,k6⟩;obtain⟨uo,uc,rfl,ah⟩:=hu.form);obtain⟨y,hy⟩:∃y,y=S.L.win a:=⟨_,rfl⟩;rw[<- hy]at f hu ah⊢;obtain⟨W,hW⟩:∃W,W=w6.alloc (.cells #[.int .u64 y.low,.int .u64 y.width,.slice uo y.set.length uc] 92):=⟨_,rfl⟩;have aD:W.heap[w6.heap.size]?=AF (.cells #[.int .u64 y.low,.int .u64 y.width,.slice uo y.set.length uc] 92 (0,0)):=by rw[hW];exact Qy _ _
      have kW:Xy No wr W:=by rw[hW];exact k6.alloc _
      have d0:=Qq aD 0;have d1:=Qq aD 1;have d2:=Qq aD 2;simp at d0 d1 d2;rw[<- hW];have c0:=kW.cell c0 id;have aQ:Nf W (.agg #[.int .u64 y.low,.int .u64 y.width,.slice uo y.set.length uc]) y:=by rw[hW];exact hu.no ((Xy.refl _ _).alloc _)
      have kd:Xy No W W.drew:=(Xy.refl _ _).drew;have aZ:=f.out.2.2.2.2.1.no (kW.then kd);have aF:=aZ.floorOf f.out.qc;rw[show S.sync.L=S.L.sync from rfl,Av]at aF;obtain⟨fl,O⟩:∃fl,fl=S.L.floor a:=⟨_,rfl⟩;rw[<- O]at aF;have P:∀X,Xy No W X->DJ Tryz.prog 15 #[.pointer (AF ⟨q,0,AI⟩)] X λe w'=>e=.returned (.int .u64 S.L.inc)/\w'=X:=λX k=>by
       obtain⟨g,m,lv,n',s,wv,bG,bF,h1,_⟩:=f.out.2.2.2.2.1.no (kW.then k);exact Sf (L:=S.sync.L) h1.led
      obtain⟨inc,I⟩:∃inc,inc=S.L.inc:=⟨_,rfl⟩;rw[<- I]at P;have aK:=λ(X:AC) (k:Xy No W X)=>Dp (aQ.no k) f.out.2.2.2.2.2.1.pre;have aL:=λ(X:AC) (k:Xy No W X)=>Ob (aQ.no k) (by have:=f.out.2.2.2.2.2.1.pre.few;omega);have HW:=BX (A4 kW hy O I);clear hW aD kW aQ aZ hy O I hu ah k6;refine Ql (λw'=>Xy No W w') [0,1,2,3,4,5,6,7,9,10,11,12,14,15,16,18] [8,13,17,19,20,21] [22,23] (by kernel_rfl) (by kernel_rfl) (λ_ _ _ _ _ h=>h) kd ?_;iterate 16(refine Qk (v:=?_) rfl rfl rfl ?_ ?_;rotate_left;focus(
       intro w' hS;have f0:=hS.cell c0 id;have f1:=hS.cell d0 id;have f2:=hS.cell d1 id;have f3:=hS.cell d2 id;go_simp
       try with_reducible rfl))
      refine Qj (Qx rfl rfl (λK C=>?_));go_simp;refine aF.mono ?_;rintro e w7⟨rfl,e7⟩;subst e7;refine C _ _ kd ?_;clear C K;refine Qx rfl rfl (λK C=>?_);go_simp;refine(P _ kd).mono ?_;rintro e w7⟨rfl,e7⟩;subst e7;refine C _ _ kd ?_;clear C K;refine Qx rfl rfl (λK C=>?_);go_simp;refine(aK _ kd).mono ?_;rintro e w8⟨rfl,k8⟩;have aH:=kd.then k8;refine C _ _ aH ?_;clear C K;refine Qx rfl rfl (λK C=>?_);go_simp;refine(aL _ aH).mono ?_;rintro e w9⟨rv,rfl,aG,_,k9⟩;have M:=aH.then k9;refine C _ _ M ?_;clear C K;obtain⟨ro,rc,rfl,_,_⟩:=aG.form;obtain⟨rn,ad⟩:∃rn,rn=(y.set.take 32).length:=⟨_,rfl⟩;rw[<- ad]at aG⊢;have aR:=(f.out.2.1.then HW.out.1).then M;have aI:=(f.out.1.no (HW.out.1.then M));have N:(Tq S.L o a).cells (.slice ro rn rc) (.slice AI 0 0)=#[.int .u8 n,.int .i64 a,.int .u64 fl,.int .u64 inc,.int .u64 0,.int .u64 y.low,.int .u64 ((y.low:Int)+(y.width:Int)),.slice ro rn rc,.slice AI 0 0]:=by unfold Vy.cells Tq;dsimp only;rw[<- f.out.rg,<- HW.out.qc,<- HW.out.2.2.2,<- HW.out.2.1];rfl
      have ai:(Tq S.L o a).runs=y.set.take 32:=by unfold Tq;dsimp only;rw[<- HW.out.2.1]
      have ag:=Mk S.L o a;have aT:∀o',w5.heap.size<=(w9.alloc o').heap.size:=λo'=>by have:=aR.size;rw[FE];omega
      have HZ:=BX (A7 aR aI aG N ai ag aT);clear aR aI aG ad N ai ag aT;have aj:=M.alloc (.cells #[.int .u8 n,.int .i64 a,.int .u64 fl,.int .u64 inc,.int .u64 0,.int .u64 y.low,.int .u64 ((y.low:Int)+(y.width:Int)),.slice ro rn rc,.slice AI 0 0] 69);refine Qx rfl rfl (λK C=>?_);go_simp;refine C _ _ M ?_;clear C K;refine Qx rfl rfl (λK C=>?_);go_simp;refine C _ _ aj ?_;clear C K;clear k8 k9 aH M aL aK P aF kd d0 d1 d2 aj;refine Qh (Qu rfl (Qu rfl (Qm ?_)));have aU:=λ(o':Obj)=>HZ.out.2.1.no ((Xy.refl No w9).alloc o');have aM:=λ(o':Obj)=>HZ.out.2.2.1.no ((Xy.refl No w9).alloc o');have HY:=BX (A2 aU aM);clear aU aM;show wpList _ _ _ [_,_] _ _;go_wp2_with(at_builtin;refine Ma rfl _ _ rfl (HY.out.1 _) rfl (D:=w9.heap.size) (y:=Tq S.L o a) (u:=.slice ro rn rc) (by rw[HZ.out.qd];exact Qy _ _) rfl (by rw[HZ.out.qe];exact HY.out.2 _) (by have:=HZ.out.qf;have:=f.out.qc;omega) (HZ.out.rg _) ?_;intro bI bH w' Q aV;have HE:=BX (A2 Q aV);clear Q aV);go_roundw;case rel =>
       refine⟨a+1,by go_num,f.out.qc,?_,?_⟩
       ·rw[f.out.qd];exact HE.out.1
       ·have av:=HZ.out.1.alloc (.cells #[.int .u8 n,.int .i64 a,.int .u64 fl,.int .u64 inc,.int .u64 0,.int .u64 y.low,.int .u64 ((y.low:Int)+(y.width:Int)),.slice ro rn rc,.slice AI 0 0] 69);exact av.absorb HE.out.2 (λb hb=>(f.out.1.kind b hb).1)
      case measure=>have:=f.out.qc;simp[C0];omega
    ·have au:¬(a:Int)<16:=by omega
     have ar:a=16:=by omega
     subst ar;have f:=BX hI;clear hI G ha;go_wp2_with fail;go_meet;exact f.out
  case rest =>
   obtain⟨E,kr⟩:=hcut
   rename AC=>w8
   obtain⟨vo,vc,rfl,_,_⟩:=E.form;have ac:=HH.out.2.1.keep HA.out.2.1 HA.out.2.2.2;have A:=ac.no kr;have bB:=λi=>Qg A.blk i;have c:=λi=>Qq A.blk i;have e1:=c 1;have e2:=c 2;have e3:=c 3;have e4:=c 4;have e5:=c 5;have e6:=c 6;have e7:=c 7;have e8:=c 8;have e9:=c 9;have ak:=c 10;have al:=c 11;have am:=c 12;have an:=c 13;have ao:=c 14;have ap:=c 15;have aq:=c 16;simp[Sm]at e1 e2 e3 e4 e5 e6 e7 e8 e9 ak al am an ao ap aq;have kz:=Fl w8 R;have hz:=YU A.blk;have aY:=((HA.out.1.no kr).cellsAt A.blk (by simp) (by simp) (by simp) A.pb kz).1;have aJ:Sg (Sc w8 R) w.heap.size (.slice vo (Sw S.L o 16).length vc) (Sw S.L o 16):=by
    have h1:=E.keep (F:=(·=R)) (λb hb aw=>by
     have e:b=R:=hb;subst e;obtain⟨bA,fr,e2⟩:=aw;rw[A.blk]at e2;simp at e2) kz (λb hb e=>by
     have e:b=R:=e;subst e;obtain⟨_,aS,e2⟩:=E.kind b hb;rw[A.blk]at e2
     simp at e2)
    obtain⟨xs,x1,x2,x3⟩:=h1;exact⟨xs,x1,x2,x3.1,x3.2.imp id (λ⟨g,cap,aS,y1,y2,y3⟩=>⟨g,cap,aS,y1,BF HA.out.2.1.size y2,y3⟩)⟩
   have aW:Xy (λb=>F b\/b=R) w (Sc w8 R):=((HA.out.2.1.mono (λb _ e=>(Or.inl e:F b\/b=R))).then kr).trans kz (λb _ e=>.inr e);have HF:=BX (A5 aJ aY hz aW A.pb);unfold Sc at HF;clear E kr ac A c kz hz aY aJ aW;go_wp2_with fail;go_ret;exact⟨_,rfl,by rw[<- HO.out];exact HF.out.1,F1,HF.out.2.1,⟨HF.out.qc,rfl,HF.out.re⟩,HF.out.qd,HA.out.qc⟩
end
theorem Z2(w:AC)(f:AM):DJ Tryz.prog 132 #[.slice AI 0 0,.slice AI 0 0,f] w λz w'=>z=.returned (.bool true)/\w'=w:=by
 go_enter Tryz.func132,Tryz.ntmps132;go_wp2_with fail;go_loopw [17] (λd wr=>d=.int .i64 0/\wr=w) (λ_ _=>0);case atStart=>exact⟨rfl,rfl⟩
 case round =>obtain⟨rfl,rfl⟩:=hrel;go_wp2_with fail;go_ret;exact⟨rfl,rfl⟩
def Ll (k:Nat)(a:Int)(e i c l:Nat)(d:AM):Array AM:=#[.int .u8 k,.int .i64 a,.int .u64 e,.int .u64 i,.int .u64 0,.int .u64 c,.int .u64 l,d,.slice AI 0 0]
theorem G0(k:Nat)(a:Int)(e i c l:Nat)(M:Zy w u r)(N:Zy w v r)(L:r.length<=268435456) :
  DJ Tryz.prog 84 #[.agg (Ll k a e i c l u),.agg (Ll k a e i c l v)] w λz w'=>z=.returned (.bool true)/\Xy No w w':=by
 obtain⟨T,Q,rfl,_,_⟩:=M.form;obtain⟨V,U,rfl,_,_⟩:=N.form;unfold Ll;obtain⟨n,K⟩:∃n,n=r.length:=⟨_,rfl⟩;rw[<- K];obtain⟨m,d⟩:∃m,m=w.alloc (.cells #[.int .u8 k,.int .i64 a,.int .u64 e,.int .u64 i,.int .u64 0,.int .u64 c,.int .u64 l,.slice T n Q,.slice AI 0 0] 69):=⟨_,rfl⟩;have C:m.heap[w.heap.size]?=AF (.cells #[.int .u8 k,.int .i64 a,.int .u64 e,.int .u64 i,.int .u64 0,.int .u64 c,.int .u64 l,.slice T n Q,.slice AI 0 0] 69 (0,0)):=by rw[d];exact Qy _ _
 have D:Xy No w m:=by rw[d];exact(Xy.refl _ _).alloc _
 have A:m.heap.size=w.heap.size+1:=by rw[d];simp
 obtain⟨B,h⟩:∃B,B=m.alloc (.cells #[.int .u8 k,.int .i64 a,.int .u64 e,.int .u64 i,.int .u64 0,.int .u64 c,.int .u64 l,.slice V n U,.slice AI 0 0] 69):=⟨_,rfl⟩;have O:B.heap[w.heap.size+1]?=AF (.cells #[.int .u8 k,.int .i64 a,.int .u64 e,.int .u64 i,.int .u64 0,.int .u64 c,.int .u64 l,.slice V n U,.slice AI 0 0] 69 (0,0)):=by rw[h,<- A];exact Qy _ _
 have f:Xy No m B:=by rw[h];exact(Xy.refl _ _).alloc _
 have C:=f.heap C id;have g:=λj=>Qq C j;have cb:=λj=>Qq O j;have Y:=g 0;have b0:=cb 0;have Z:=g 1;have b1:=cb 1;have a2:=g 2;have b2:=cb 2;have a3:=g 3;have b3:=cb 3;have a4:=g 4;have b4:=cb 4;have a5:=g 5;have b5:=cb 5;have a6:=g 6;have b6:=cb 6;have a7:=g 7;have b7:=cb 7;have I:=g 8;have J:=cb 8;simp at Y Z a2 a3 a4 a5 a6 a7 I b0 b1 b2 b3 b4 b5 b6 b7 J;have P:=Eo (M.no (D.then f)) (N.no (D.then f)) L L;rw[decide_eq_true rfl,<- K]at P;have X:=BX (D.then f);clear M N L D f K C O g cb A;go_enter Tryz.func84,Tryz.ntmps84;go_upto_region 1 with fail;rw[<- d,<- h];clear d h;go_wp2_with(first
  | (go_at_call 132;refine(Z2 _ _).mono ?_;rintro z w4 ⟨rfl,e4⟩;subst e4)
  | (go_at_call 131;refine P.mono ?_;rintro z w3 ⟨rfl,E⟩;have I:=E.cell I id;have J:=E.cell J id;have G:=BX E;clear E))
 go_ret;exact⟨rfl,X.out.then G.out⟩
theorem Sg.at'(h:Sg w B (.slice ao n cap) l)(hi:l[i]?=AF x) :
  ∃g u,ao=AF ⟨g,0,AI⟩/\Zy w u x.runs/\B<=g/\∀(j:Nat) z,(x.cells u (.slice AI 0 0))[j]?=AF z->w.cell? ⟨g,i*9+j,AI⟩=AF z:=by
 obtain⟨xs,rfl,D,M,E⟩:=h;rw[CK]at hi;cases f:xs[i]? with
 | none =>
  rw[f]at hi;simp at hi
 | some y =>
  rw[f]at hi;simp at hi;subst hi;have J:=(BK.1 f).1;have Q:0<(xs.map (·.1)).length:=by rw[D6];omega
  rcases E with⟨_,e⟩|⟨g,A,C,e,I,L,N,O,P,G⟩
  ·omega
  ·simp only[Value.slice.injEq]at e;obtain⟨rfl,_,_⟩:=e;refine⟨g,y.2,rfl,D y (FB f),I,λj z K=>?_⟩;have d:(y.1.cells y.2 (.slice AI 0 0)).toList[j]?=AF z:=by rw[Array.getElem?_toList];exact K
   have m:j<9:=(BK.1 d).1;have k:=Bc (λx:Vy×AM=>(x.1.cells x.2 (.slice AI 0 0)).toList) 9 (λx=>rfl) f m;rw[d,<- G,List.getElem?_take]at k
   split at k
   ·rw[Qq L];simpa using k
   ·simp at k
def NF:Xs:=((Xs.start 9).step (.inc 1)).sync
def GQ:Xs:=NF.step (.floor 0 1)
theorem VW:NF.floor 0=0:=by kernel_rfl
theorem S6:GQ.putR 0 1 []=AI:=by unfold Xs.putR;exact if_pos ⟨by kernel_rfl,by kernel_rfl⟩
theorem GD:Sw GQ (2::BT 15 0) 16=[⟨2,0,1,1,0,0,9,[],[]⟩]:=by kernel_rfl
theorem VE[bn:Ib](ok:Ue 9 1 S)(M:S.d.full=false)(X:S.d.room=60000)(V:msum S.d.now<=60)(D:S.L=NF):∃S2,Tb 9 1 size S 0 1 1 true S2/\S2.L=GQ/\Ue 9 3 S2:=by
 obtain⟨c,S1,k,m,K⟩:=ok.raise (by decide) size 0 1;have N:S.L.floor 0=0:=by rw[D];exact VW
 have A:c=0/\S1.L=S.L.step (.floor 0 1):=by
  rcases K with⟨n,g,E,_,_,_,i,_⟩|⟨n,i⟩
  ·obtain rfl:g=0:=by omega
   exact⟨n,i⟩
  ·rcases k with⟨U,_,_⟩|⟨g,E,_,_,⟨O,_,_⟩|⟨_,I⟩⟩
   ·omega
   ·obtain rfl:g=0:=by omega
    omega
   ·obtain rfl:g=0:=by omega
    have G:=Gz 0 1 (by decide) (by decide);rcases I.1.code with h|h
    ·exact absurd h n
    ·rcases Ix I.1 h with h|h
     ·rw[M]at h;cases h
     ·omega
 obtain⟨rfl,f⟩:=A;have f:S1.L=GQ:=by rw[f,D];rfl
 obtain⟨J,T,S2,P,C,_,B⟩:=m.put (by decide) size 0 1 (l:=[]) (BW _) (λx Q=>by simp at Q);have z:S2=S1:=by
  rcases B with⟨_,g,rc,E,_,i,_⟩|h
  ·obtain rfl:g=0:=by omega
   rw[f,S6]at i;cases i
  ·exact h
 exact⟨S2,.inr (.inr ⟨rfl,S1,J,T,.inr ⟨by omega,k⟩,m,P⟩),by rw[z,f],C⟩
theorem Lp[bn:Ib](hT:ban.top<=w.heap.size):DJ Tryz.prog 28 #[] w λe w'=>e=.returned (.bool true)/\Xy No w w':=by
 have n:=Dc (base:=w.heap.size) (w:=w) 8 50 (BE _) hT;have n:DJ Tryz.prog 29 #[.int .u16 8,.int .u16 50] w λe w'=>∃P R X q p r xq S F G,e=.returned (.pointer (AF ⟨P,0,AI⟩))/\P17 w.heap.size w' P R X q p r xq 9 51 S (BT 16 0) F G/\Ue 9 1 S/\(S.d.full=false/\S.d.room=60000/\msum S.d.now<=60)/\S.L=NF/\S.ts=[.inc 1]/\(∀b,KQ P R X F G b->w.heap.size<=b)/\Xy No w w':=n;have HT:=BX hT;clear hT;go_enter Tryz.func28,Tryz.ntmps28;go_upto_region 2 with(go_at_call 29;refine n.mono ?_;rintro e w1 ⟨P,R,X,q,p,r,xq,S,F,G,rfl,m,ok,⟨hf,hr,hm⟩,hL,_,N,k1⟩);clear n;obtain⟨S2,hh,K,aB⟩:=VE (size:=51) ok hf hr hm hL;have k:=k1.size;have A:=Bk m.led m.rcv ok (by decide) ⟨1,0,1,0,1,0,0,[],[]⟩ 0 rfl (by decide) rfl (by decide) (by decide) rfl rfl rfl hh k (BF HT.out k);have A:DJ Tryz.prog 31 #[.pointer (AF ⟨R,0,AI⟩),.agg #[.int .u8 1,.int .i64 0,.int .u64 1,.int .u64 0,.int .u64 1,.int .u64 0,.int .u64 0,.slice AI 0 0,.slice AI 0 0]] w1 λz w'=>z=.returned (.bool true)/\So w.heap.size w1 R q p 9 51 S2 (2::BT 15 0) F w':=A;have p0:=Qq m.blk 0;simp at p0;have T:¬F P:=(m.led.cellsAt m.blk (by simp) (by simp) (by simp) m.pb (Xy.refl _ _)).2;have U:¬P=R:=λe=>by
  have h1:=m.blk;rw[e,m.rcv.blk]at h1;simp at h1
 have I:=BX (A4 m K N k1);clear m ok hf hr hm hL N k1 hh K aB;go_upto_region 4 with(go_at_call 31;refine A.mono ?_;rintro z w2 ⟨rfl,F2,Q,Y,Z,V⟩);clear A;have p0:=Z.cell p0 (λe=>e.elim T U);have M:=BF k Z.size;have E:=UN Q Y M;rw[I.out.2.1,GD]at E;have O:Xy No w w2:=I.out.2.2.2.absorb Z (λb B=>by
  rcases B with B|rfl
  ·exact I.out.qc b (.inr (.inr (.inr (.inl B))))
  ·exact I.out.qc b (.inr (.inl rfl)))
 have J:∀b,F2 b\/b=R->w.heap.size<=b:=λb B=>by
  rcases B with B|rfl
  ·rcases V b B with h|h
   ·exact I.out.qc b (.inr (.inr (.inr (.inl h))))
   ·exact BF k h
  ·exact I.out.qc b (.inr (.inl rfl))
 have HK:=BX (A2 O J);clear Q Y Z V O J T U k M;go_upto_region 5 with(go_at_call 32;refine E.mono ?_;rintro z w3 ⟨v,rfl,C,F3,_,_,k3,_⟩);clear E;obtain⟨vo,vc,rfl,_,_⟩:=C.form;obtain⟨g,u,rfl,hu,_,f⟩:=C.at' (i:=0) rfl;obtain⟨uo,uc,rfl,_,_⟩:=hu.form;have c0:=f 0 _ rfl;have c1:=f 1 _ rfl;have c2:=f 2 _ rfl;have c3:=f 3 _ rfl;have c4:=f 4 _ rfl;have c5:=f 5 _ rfl;have c6:=f 6 _ rfl;have c7:=f 7 _ rfl;have c8:=f 8 _ rfl;have D:=G0 (w:=w3) 2 0 1 1 0 9 hu (Zy.nil _) (by decide);unfold Ll at D;have HZ:=BX (HK.out.1.absorb k3 HK.out.2);clear C hu f k3;simp at c0 c1 c2 c3 c4 c5 c6 c7 c8;simp at D;go_wp2_with(go_at_call 84;refine D.mono ?_;rintro z w4 ⟨rfl,k4⟩;have aA:=BX k4;clear k4);go_ret;exact⟨rfl,HZ.out.then aA.out⟩
section
variable {H:Type}{enc:TypeId × AM->H}{W:AC}
theorem KA{cs:List AM}(h:cs.length=9):∃a b c d e f g i j,cs=[a,b,c,d,e,f,g,i,j]:=by
 match cs,h with
 | [a,b,c,d,e,f,g,i,j],_=>exact⟨a,b,c,d,e,f,g,i,j,rfl⟩
end
def Ns (S:S16)(o:List Nat)(f:Vy)(ok:Bool)(S2:S16)(d:List Nat):Prop :=
 (ok=false/\S2=S/\d=o) \/
 (ok=true/\∃a:Nat,f.agent=a/\a<16/\1<=f.epoch/\(Hel f\/Bat f)/\(∃L1:Xs,((L1=S.L/\f.epoch=S.L.floor a)\/(L1=S.L.step (.floor a f.epoch)/\S.L.floor a<f.epoch))/\(S2.L=L1\/∃rc,L1.putR a f.base f.items=AF rc/\S2.L=L1.step rc)) /\
  ∃n,(n=2\/n=4)/\(d=o.set a n\/d=o/\o.getD a 0≠0))
theorem Ue.recvO(h:Ue width j S)(hj:j+2<=450)(size:Int)(o:List Nat)(f:Vy)(P:f.items.length<=8)(N:∀x∈f.items,x.s.body.length<=40) :
  ∃ok S2 Z,Ny width j size S o f ok S2 Z/\Ue width (j+2) S2/\Ns S o f ok S2 Z:=by
 by_cases i:Hel f
 ·obtain⟨a,k⟩:∃a:Nat,f.agent=a:=⟨f.agent.toNat,by have:=i.2.1.1;omega⟩;have d:a<16:=by have:=i.2.1.2.1;omega
  have K:=i.2.1.2.2;have J:f.items=[]:=List.eq_nil_of_length_eq_zero i.rh;by_cases U:f.epoch<S.L.floor a
  ·exact⟨false,S,o,.inr ⟨a,k,d,.inl ⟨i,.inl ⟨U,rfl,rfl⟩,rfl⟩⟩,h.mono (by omega),.inl ⟨rfl,rfl,rfl⟩⟩
  ·by_cases V:S.L.floor a<f.epoch
   ·obtain⟨c,S1,Y,m,O⟩:=h.raise (by omega) size a f.epoch;rcases O with⟨rfl,C,ea,_,_,_,hL,_⟩|⟨I,rfl⟩
    ·obtain rfl:C=a:=by omega
     obtain⟨c,B,S2,A,z,_,g⟩:=m.put (by omega) size C f.base (l:=[]) (BW _) (λx Q=>by simp at Q);refine⟨true,S2,_,.inr ⟨C,k,d,.inl ⟨i,.inr (.inr ⟨rfl,S1,c,B,.inr ⟨V,Y⟩,m,A⟩),rfl⟩⟩,z,.inr ⟨rfl,C,k,d,K,.inl i,⟨_,.inr ⟨rfl,V⟩,?_⟩,2,.inl rfl,.inl rfl⟩⟩;rw[J,<- hL];rcases g with⟨_,D,rc,X,_,E,_,G,_⟩|rfl
     ·obtain rfl:D=C:=by omega
      exact .inr ⟨rc,E,G⟩
     ·exact .inl rfl
    ·exact⟨false,S1,o,.inr ⟨a,k,d,.inl ⟨i,.inr (.inl ⟨V,⟨c,I,Y⟩,rfl⟩),rfl⟩⟩,m.mono (by omega),.inl ⟨rfl,rfl,rfl⟩⟩
   ·have m:=h.mono (Nat.le_succ j);obtain⟨c,B,S2,A,z,_,g⟩:=m.put (by omega) size a f.base (l:=[]) (BW _) (λx Q=>by simp at Q);refine⟨true,S2,_,.inr ⟨a,k,d,.inl ⟨i,.inr (.inr ⟨rfl,S,c,B,.inl ⟨by omega,rfl⟩,m,A⟩),rfl⟩⟩,z,.inr ⟨rfl,a,k,d,K,.inl i,⟨_,.inl ⟨rfl,by omega⟩,?_⟩,2,.inl rfl,.inl rfl⟩⟩;rw[J];rcases g with⟨_,D,rc,X,_,E,_,G,_⟩|rfl
    ·obtain rfl:D=a:=by omega
     exact .inr ⟨rc,E,G⟩
    ·exact .inl rfl
 ·by_cases n:Bat f
  ·obtain⟨a,k⟩:∃a:Nat,f.agent=a:=⟨f.agent.toNat,by have:=n.2.1.1;omega⟩;have d:a<16:=by have:=n.2.1.2.1;omega
   have K:=n.2.1.2.2;by_cases U:f.epoch≠S.L.floor a\/S.L.inc<f.inc
   ·refine⟨false,S,o,.inr ⟨a,k,d,.inr ⟨n,.inl ⟨U,rfl,rfl⟩,?_⟩⟩,h.mono (by omega),.inl ⟨rfl,rfl,rfl⟩⟩;rw[if_neg (by simp)]
   ·obtain⟨c,B,S2,A,m,_,g⟩:=h.put (by omega) size a f.base P N;by_cases I:c=0
    ·subst I;refine⟨true,S2,_,.inr ⟨a,k,d,.inr ⟨n,.inr ⟨by omega,by omega,0,B,A,rfl⟩,rfl⟩⟩,m.mono (by omega),.inr ⟨rfl,a,k,d,K,.inr n,⟨_,.inl ⟨rfl,by omega⟩,?_⟩,4,.inr rfl,?_⟩⟩
     ·rcases g with⟨_,D,rc,X,_,E,_,G,_⟩|rfl
      ·obtain rfl:D=a:=by omega
       exact .inr ⟨rc,E,G⟩
      ·exact .inl rfl
     ·by_cases T:o.getD a 0=0
      ·rw[if_pos ⟨rfl,T⟩];exact .inl rfl
      ·rw[if_neg (λe=>T e.2)];exact .inr ⟨rfl,T⟩
    ·refine⟨false,S2,o,.inr ⟨a,k,d,.inr ⟨n,.inr ⟨by omega,by omega,c,B,A,by simp[I]⟩,?_⟩⟩,m.mono (by omega),.inl ⟨rfl,?_,rfl⟩⟩
     ·rw[if_neg (by simp)]
     ·rcases g with⟨M,_⟩|M
      ·exact absurd M I
      ·exact M
  ·exact⟨false,S,o,.inl ⟨i,n,rfl,rfl,rfl⟩,h.mono (by omega),.inl ⟨rfl,rfl,rfl⟩⟩
def Nj (L:Xs)(o:List Nat):Prop:=∀a,o.getD a 0≠0->1<=L.floor a/\(o.getD a 0=2\/o.getD a 0=4)
theorem Wr{L:Xs}(d:a<L.ag.length)(k:Nat):(L.step (.floor a e)).floor k=if k=a then e else L.floor k:=by
 unfold Xs.floor Xs.step;rw[HU];by_cases h:k=a
 ·subst h;rw[if_pos rfl,BY d];simp
 ·rw[if_neg h];cases L.ag[k]? with
  | none=>rfl
  | some g=>simp[Ne.symm h]
theorem Aj{L:Xs}(k:Nat):(L.step (.put a b l)).floor k=L.floor k:=by
 unfold Xs.floor Xs.step;rw[HU];cases L.ag[k]? with
 | none=>rfl
 | some g=>by_cases h:a=k<;>simp[h]
theorem Wf{L:Xs}(h:L.putR a b l=AF rc):∃d,rc=.put a b d:=by
 unfold Xs.putR at h
 split at h
 ·cases h
 ·exact⟨_,(Option.some.inj h).symm⟩
theorem Ns.floors(h:Ns S o f ok S2 z)(E:S.L.Ok width) :
  (ok=false/\S2=S/\z=o)\/(ok=true/\∃a:Nat,f.agent=a/\a<16/\1<=f.epoch/\S.L.floor a<=f.epoch/\∀k,S2.L.floor k=if k=a then f.epoch else S.L.floor k):=by
 rcases h with h|⟨A,a,C,d,D,_,⟨L1,n,i⟩,_⟩
 ·exact .inl h
 ·have G:a<S.L.ag.length:=by rw[E.ag];exact d
  have m:∀k,L1.floor k=if k=a then f.epoch else S.L.floor k:=λk=>by
   rcases n with⟨rfl,e⟩|⟨rfl,_⟩
   ·by_cases g:k=a
    ·rw[if_pos g,g,e]
    ·rw[if_neg g]
   ·exact Wr G k
  refine .inr ⟨A,a,C,d,D,by rcases n with⟨_,e⟩|⟨_,e⟩<;>omega,λk=>?_⟩;rcases i with i|⟨rc,i,B⟩
  ·rw[i];exact m k
  ·obtain⟨I,rfl⟩:=Wf i;rw[B,Aj];exact m k
theorem Ns.owes(h:Ns S o f ok S2 A)(M:S.L.Ok width)(Q:o.length=16)(z:Nj S.L o):Nj S2.L A:=by
 have K:=h.floors M;rcases h with⟨_,rfl,rfl⟩|⟨E,a,P,D,J,_,_,n,O,i⟩
 ·exact z
 ·rcases K with⟨C,_⟩|⟨_,B,I,_,_,N,m⟩
  ·rw[E]at C;cases C
  ·obtain rfl:B=a:=by omega
   intro k g;rw[m k];by_cases d:k=B
   ·subst d;rw[if_pos rfl];refine⟨J,?_⟩;rcases i with rfl|⟨rfl,G⟩
    ·have e:(o.set k n).getD k 0=n:=by rw[WD,List.getElem?_set_self (by omega)];rfl
     rw[e];exact O
    ·exact(z k G).2
   ·rw[if_neg d];have e:A.getD k 0=o.getD k 0:=by
     rcases i with rfl|⟨rfl,_⟩
     ·rw[WD,WD,List.getElem?_set_ne (λe=>d e.symm)]
     ·rfl
    rw[e]at g⊢;exact z k g
theorem Uk.take(h:Uk l)(n:Nat):Uk (l.take n):=⟨λr d=>h.run r (WJ d),WK (List.take_sublist _ _) h.gap⟩
theorem NT(B:L.Ok width)(C:Nj L o)(z:a<16)(E:o.getD a 0≠0):GM (Tq L o a):=by
 obtain⟨g,G,i,k,A⟩:=B.at z;have f:(L.win a).Ok:=by rw[k];exact i.now
 obtain⟨m,n⟩:=C a E;refine⟨⟨by show(0:Int)<=(a:Int);omega,by show(a:Int)<16;omega,m⟩,.inr (.inr ⟨n,?_⟩)⟩;have D:=f.set.take 32;refine⟨KI D,rfl,rfl,by show((L.win a).set.take 32).length<=32;rw[List.length_take];omega,Nat.le_add_right _ _,λr h=>?_,λr h=>?_⟩
 ·have d:r∈(L.win a).set:=WJ (FB h);have:=f.above r.1 ⟨r,d,BE _,(f.set.run r d).1⟩;show 2<=r.1/\(L.win a).low<=r.1-2;omega
 ·have d:r∈(L.win a).set:=WJ (FB h);exact(f.above r.2 ⟨r,d,(f.set.run r d).1,BE _⟩).2.1
theorem Lb(w:AC)(D:Tryz.prog.underlying e=AF (.int k))(C:Tryz.prog.cellsOf e=1)(xs f:List Nat)(J:xs.length=f.length):∀(z:List Nat),(∀i∈z,i<xs.length) ->
  ∃r:Bool,(WL (d+1) e (Tryz.prog.cellsOf e) (xs.map λn:Nat=>DA k n).toArray (f.map λn:Nat=>DA k n).toArray z).run Tryz.prog w=.ok r w/\(r=true↔∀i∈z,xs[i]?=f[i]?)
 | [],_=>⟨true,by simp[WL],by simp⟩
 | i::z,h=>by
  have E:Tryz.prog.plainKey e=true:=by unfold Program.plainKey;rw[D]
  have G:=h i (by simp);have A:xs[i]?=AF xs[i]:=BY G;have B:f[i]?=AF f[i]:=BY (by omega);generalize xs[i]=x at A;generalize f[i]=y at B;obtain⟨r,K,m⟩:=Lb (d:=d) w D C xs f J z (λj I=>h j (by simp[I]));have L:=run_part_plain (P:=Tryz.prog) w E (xs:=(xs.map λn:Nat=>DA k n).toArray) (off:=i*Tryz.prog.cellsOf e) (v:=.int k x) (by rw[C];simp[A]);have M:=run_part_plain (P:=Tryz.prog) w E (xs:=(f.map λn:Nat=>DA k n).toArray) (off:=i*Tryz.prog.cellsOf e) (v:=.int k y) (by rw[C];simp[B]);have N:=run_equalIn_int (P:=Tryz.prog) w d e k k x y D;simp only[WL,Sem.run_bind,L,M,N,Result.andThen_ok];by_cases g:x=y
  ·refine⟨r,?_,?_⟩
   ·simpa[g]using K
   ·rw[m];simp[A,B,g]
  ·refine⟨false,?_,?_⟩
   ·have:((x:Int)==(y:Int))=false:=by simp;omega
    simp[this]
   ·simp[A,B,g]
theorem GS(w:AC)(C:Tryz.prog.underlying e=AF (.int k))(z:Tryz.prog.cellsOf e=1)(B:Tryz.prog.underlying t=AF (.array 16 e))(hi:Tryz.prog.info? e=AF i)(f:o.length=16) :
  ∃r:Bool,(WI 10000 t (.agg (o.map λn:Nat=>DA k n).toArray) (.agg ((BT 16 0).map λn:Nat=>DA k n).toArray)).run Tryz.prog w=.ok r w/\(r=true↔o=BT 16 0):=by
 obtain⟨r,g,m⟩:=Lb (d:=9998) w C z o (BT 16 0) (by simp[f]) (Pi 16) (λi hi=>by rw[f];exact Pl.1 hi);refine⟨r,(run_equalIn_array (P:=Tryz.prog) (w:=w) 9999 _ _ B hi).trans g,m.trans ⟨λh=>List.ext_getElem? λj=>?_,λh=>by rw[h];simp⟩⟩;by_cases A:j<16
 ·exact h j (Pl.2 A)
 ·rw[WM (by omega),WM (by simp;omega)]
theorem XG{o:List Nat}(h:o.length=16):∃n n1 z A B C D E G I d f g i k m,o=[n,n1,z,A,B,C,D,E,G,I,d,f,g,i,k,m]:=by
 match o,h with
 | [n,n1,z,A,B,C,D,E,G,I,d,f,g,i,k,m],_=>exact⟨_,_,_,_,_,_,_,_,_,_,_,_,_,_,_,_,rfl⟩
section
variable [bn:Ib]{base:Nat}{w w':AC}{R q p width j:Nat}{size:Int}{o:List Nat}{S S':S16}{F:Nat->Prop}
omit bn in
theorem YK(d:Su base w R q o):Su base (Sc w R) R q (BT 16 0):=by have h:=(((((((((((((((d.set 0 0).set 1 0).set 2 0).set 3 0).set 4 0).set 5 0).set 6 0).set 7 0).set 8 0).set 9 0).set 10 0).set 11 0).set 12 0).set 13 0).set 14 0).set 15 0;have f:=d.len;obtain⟨A,n1,B,C,D,E,G,I,J,K,g,i,k,m,n,z,rfl⟩:=XG f;exact h
theorem UT(hl:Ui base w q p width size S F)(hr:Su base w R q o)(aj:o≠BT 16 0)(hb:base<=w.heap.size):DJ Tryz.prog 32 #[.pointer (AF ⟨R,0,AI⟩)] w λz w'=>∃v,z=.returned v/\Sg w' w.heap.size v (Sw S.L o 16)/\So base w R q p width size S.sync (BT 16 0) F w':=by
 obtain⟨i0,ad,_⟩:=info_parts Rr;obtain⟨rq,hq,al⟩:=GS (t:=191) w Tryz.underlying5 (by kernel_rfl) Tryz.underlying191 ad hr.len;obtain rfl:rq=false:=Bool.eq_false_iff.2 (λh=>aj (al.1 h));have aK:=hr.len;obtain⟨n0,n1,n2,n3,n4,n5,n6,n7,n8,n9,aT,aU,aV,aW,aX,aY,rfl⟩:=XG aK;have hq:(WI 10000 191 (.agg #[.int .u8 (n0:Nat),.int .u8 (n1:Nat),.int .u8 (n2:Nat),.int .u8 (n3:Nat),.int .u8 (n4:Nat),.int .u8 (n5:Nat),.int .u8 (n6:Nat),.int .u8 (n7:Nat),.int .u8 (n8:Nat),.int .u8 (n9:Nat),.int .u8 (aT:Nat),.int .u8 (aU:Nat),.int .u8 (aV:Nat),.int .u8 (aW:Nat),.int .u8 (aX:Nat),.int .u8 (aY:Nat)]) (.agg #[.int .u8 0,.int .u8 0,.int .u8 0,.int .u8 0,.int .u8 0,.int .u8 0,.int .u8 0,.int .u8 0,.int .u8 0,.int .u8 0,.int .u8 0,.int .u8 0,.int .u8 0,.int .u8 0,.int .u8 0,.int .u8 0])).run Tryz.prog w=.ok false w:=hq;have c:=λi=>Qq hr.blk i;have c0:=c 0;have c1:=c 1;have c2:=c 2;have c3:=c 3;have c4:=c 4;have c5:=c 5;have c6:=c 6;have c7:=c 7;have c8:=c 8;have c9:=c 9;have U:=c 10;have V:=c 11;have Y:=c 12;have Z:=c 13;have aA:=c 14;have aB:=c 15;have aC:=c 16;simp[Sm]at c0 c1 c2 c3 c4 c5 c6 c7 c8 c9 U V Y Z aA aB aC;have ao:=hl.sync hb;have HH:=BX (A3 hl hr hb);clear c hl hr hb al aj ad aK;go_enter Tryz.func32,Tryz.ntmps32;go_upto_region 3 with fail;go_upto_region 4 with(go_at_call 23;refine ao.mono ?_;rintro e w1 ⟨rfl,F1,ag,B,ak⟩);have d:=HH.out.2.1.byLed HH.out.1;have c0:=B.cell c0 d;have c1:=B.cell c1 d;have c2:=B.cell c2 d;have c3:=B.cell c3 d;have c4:=B.cell c4 d;have c5:=B.cell c5 d;have c6:=B.cell c6 d;have c7:=B.cell c7 d;have c8:=B.cell c8 d;have c9:=B.cell c9 d;have U:=B.cell U d;have V:=B.cell V d;have Y:=B.cell Y d;have Z:=B.cell Z d;have aA:=B.cell aA d;have aB:=B.cell aB d;have aC:=B.cell aC d;have HA:=BX (A4 ag B ak d);clear ag B ak d hq ao;go_upto_region 5 with fail;go_cut [25,26] (λbI T wx=>∃cs:Array AM,bI=.agg cs/\T=.int .i64 0/\(∀a:Nat,a<16->cs[a]?=AF (.int .u8 ((([n0,n1,n2,n3,n4,n5,n6,n7,n8,n9,aT,aU,aV,aW,aX,aY]).getD a 0:Nat):Int)))/\cs.size=16/\wx=w1);case first =>go_wp2_with fail;go_meet;refine⟨_,rfl,rfl,λa ha=>?_,rfl,rfl⟩;rcases(by omega:a=0\/a=1\/a=2\/a=3\/a=4\/a=5\/a=6\/a=7\/a=8\/a=9\/a=10\/a=11\/a=12\/a=13\/a=14\/a=15)with rfl|rfl|rfl|rfl|rfl|rfl|rfl|rfl|rfl|rfl|rfl|rfl|rfl|rfl|rfl|rfl<;>rfl
 case rest =>
  obtain⟨cs,rfl,rfl,aP,ap,rfl⟩:=hcut
  rename AC=>w5
  obtain⟨o,ho⟩:∃o:List Nat,o=[n0,n1,n2,n3,n4,n5,n6,n7,n8,n9,aT,aU,aV,aW,aX,aY]:=⟨_,rfl⟩;rw[<- ho]at aP;have HO:=BX ho;have HC:=BX (A2 aP ap);clear ho aP ap c1 c2 c3 c4 c5 c6 c7 c8 c9 U V Y Z aA aB aC;go_upto_block 0 with fail;go_cut [3] (λv3 wx=>Nt w.heap.size w5 wx S.L o 16 v3);case first =>
   go_wp2_with fail;go_loopw [3,26] (λv3 T wr=>∃a:Nat,T=.int .i64 a/\a<=16/\Nt w.heap.size w5 wr S.L o a v3) (λv3 T _=>16-(C0 T).toNat);case atStart=>exact⟨0,rfl,by decide,Sg.nil _ _,Xy.refl _ _⟩
   case round =>
    obtain⟨a,rfl,ha,hI⟩:=hrel;by_cases G:a<16
    ·have bE:(a:Int)<16:=by omega
     obtain⟨n,hn⟩:∃n,n=o.getD a 0:=⟨_,rfl⟩;have aE:=HC.out.1 a G;rw[<- hn]at aE;have bN:=λX=>JQ X cs a n G aE;have J:=Lt S.L o a;rw[<- hn]at J;have bM:IntKind.i64.wrap ((a:Int)+1)=((a+1:Nat):Int):=by rw[PO];omega
     by_cases hz:n=0
     ·subst hz;rw[if_pos rfl,B5]at J;have f:=BX (A3 hI G J);clear hI G J aE hn;go_wp2_with fail;go_roundw;case rel=>exact⟨a+1,by go_num,f.out.2.1,by unfold Nt;rw[f.out.2.2];exact f.out.1⟩
      case measure=>have:=f.out.2.1;simp[C0];omega
     ·have bO:((n:Int)==0)=false:=by simp;omega
      have bJ:¬(n:Int)=0:=by omega
      rw[if_neg hz]at J;obtain⟨E,kr⟩:=hI;obtain⟨vo,vc,rfl,_,_⟩:=E.form;have aQ:=HA.out.1.no kr;obtain⟨aO,bH⟩:=aQ.safeOf G;have c0:=kr.cell c0 id;have f:=BX (A7 E kr G J aQ aO hn);clear E kr G J aQ aO hn hz aE ha;go_upto_region 10 with(go_at_call 77;refine bH.mono ?_;rintro e w6 ⟨u,rfl,hu,k6⟩;obtain⟨uo,uc,rfl,ar⟩:=hu.form);obtain⟨y,hy⟩:∃y,y=S.L.win a:=⟨_,rfl⟩;rw[<- hy]at f hu ar⊢;obtain⟨W,hW⟩:∃W,W=w6.alloc (.cells #[.int .u64 y.low,.int .u64 y.width,.slice uo y.set.length uc] 92):=⟨_,rfl⟩;have aD:W.heap[w6.heap.size]?=AF (.cells #[.int .u64 y.low,.int .u64 y.width,.slice uo y.set.length uc] 92 (0,0)):=by rw[hW];exact Qy _ _
      have kW:Xy No wr W:=by rw[hW];exact k6.alloc _
      have d0:=Qq aD 0;have d1:=Qq aD 1;have d2:=Qq aD 2;simp at d0 d1 d2;rw[<- hW];have c0:=kW.cell c0 id;have aR:Nf W (.agg #[.int .u64 y.low,.int .u64 y.width,.slice uo y.set.length uc]) y:=by rw[hW];exact hu.no ((Xy.refl _ _).alloc _)
      have kd:Xy No W W.drew:=(Xy.refl _ _).drew;have ai:=f.out.2.2.2.2.1.no (kW.then kd);have aF:=ai.floorOf f.out.qc;rw[show S.sync.L=S.L.sync from rfl,Av]at aF;obtain⟨fl,O⟩:∃fl,fl=S.L.floor a:=⟨_,rfl⟩;rw[<- O]at aF;have P:∀X,Xy No W X->DJ Tryz.prog 15 #[.pointer (AF ⟨q,0,AI⟩)] X λe w'=>e=.returned (.int .u64 S.L.inc)/\w'=X:=λX k=>by
       obtain⟨g,m,lv,n',s,wv,bQ,bP,h1,_⟩:=f.out.2.2.2.2.1.no (kW.then k);exact Sf (L:=S.sync.L) h1.led
      obtain⟨inc,I⟩:∃inc,inc=S.L.inc:=⟨_,rfl⟩;rw[<- I]at P;have aL:=λ(X:AC) (k:Xy No W X)=>Dp (aR.no k) f.out.2.2.2.2.2.1.pre;have aM:=λ(X:AC) (k:Xy No W X)=>Ob (aR.no k) (by have:=f.out.2.2.2.2.2.1.pre.few;omega);have HW:=BX (A4 kW hy O I);clear hW aD kW aR ai hy O I hu ar k6;refine Ql (λw'=>Xy No W w') [0,1,2,3,4,5,6,7,9,10,11,12,14,15,16,18] [8,13,17,19,20,21] [22,23] (by kernel_rfl) (by kernel_rfl) (λ_ _ _ _ _ h=>h) kd ?_;iterate 16(refine Qk (v:=?_) rfl rfl rfl ?_ ?_;rotate_left;focus(
       intro w' hS;have f0:=hS.cell c0 id;have f1:=hS.cell d0 id;have f2:=hS.cell d1 id;have f3:=hS.cell d2 id;go_simp
       try with_reducible rfl))
      refine Qj (Qx rfl rfl (λK C=>?_));go_simp;refine aF.mono ?_;rintro e w7⟨rfl,e7⟩;subst e7;refine C _ _ kd ?_;clear C K;refine Qx rfl rfl (λK C=>?_);go_simp;refine(P _ kd).mono ?_;rintro e w7⟨rfl,e7⟩;subst e7;refine C _ _ kd ?_;clear C K;refine Qx rfl rfl (λK C=>?_);go_simp;refine(aL _ kd).mono ?_;rintro e w8⟨rfl,k8⟩;have aH:=kd.then k8;refine C _ _ aH ?_;clear C K;refine Qx rfl rfl (λK C=>?_);go_simp;refine(aM _ aH).mono ?_;rintro e w9⟨rv,rfl,aG,_,k9⟩;have M:=aH.then k9;refine C _ _ M ?_;clear C K;obtain⟨ro,rc,rfl,_,_⟩:=aG.form;obtain⟨rn,an⟩:∃rn,rn=(y.set.take 32).length:=⟨_,rfl⟩;rw[<- an]at aG⊢;have aS:=(f.out.2.1.then HW.out.1).then M;have aI:=(f.out.1.no (HW.out.1.then M));have N:(Tq S.L o a).cells (.slice ro rn rc) (.slice AI 0 0)=#[.int .u8 n,.int .i64 a,.int .u64 fl,.int .u64 inc,.int .u64 0,.int .u64 y.low,.int .u64 ((y.low:Int)+(y.width:Int)),.slice ro rn rc,.slice AI 0 0]:=by unfold Vy.cells Tq;dsimp only;rw[<- f.out.rg,<- HW.out.qc,<- HW.out.2.2.2,<- HW.out.2.1];rfl
      have au:(Tq S.L o a).runs=y.set.take 32:=by unfold Tq;dsimp only;rw[<- HW.out.2.1]
      have aq:=Mk S.L o a;have ab:∀o',w5.heap.size<=(w9.alloc o').heap.size:=λo'=>by have:=aS.size;rw[FE];omega
      have HZ:=BX (A7 aS aI aG N au aq ab);clear aS aI aG an N au aq ab;have av:=M.alloc (.cells #[.int .u8 n,.int .i64 a,.int .u64 fl,.int .u64 inc,.int .u64 0,.int .u64 y.low,.int .u64 ((y.low:Int)+(y.width:Int)),.slice ro rn rc,.slice AI 0 0] 69);refine Qx rfl rfl (λK C=>?_);go_simp;refine C _ _ M ?_;clear C K;refine Qx rfl rfl (λK C=>?_);go_simp;refine C _ _ av ?_;clear C K;clear k8 k9 aH M aM aL P aF kd d0 d1 d2 av;refine Qh (Qu rfl (Qu rfl (Qm ?_)));have ac:=λ(o':Obj)=>HZ.out.2.1.no ((Xy.refl No w9).alloc o');have aN:=λ(o':Obj)=>HZ.out.2.2.1.no ((Xy.refl No w9).alloc o');have HY:=BX (A2 ac aN);clear ac aN;show wpList _ _ _ [_,_] _ _;go_wp2_with(at_builtin;refine Ma rfl _ _ rfl (HY.out.1 _) rfl (D:=w9.heap.size) (y:=Tq S.L o a) (u:=.slice ro rn rc) (by rw[HZ.out.qd];exact Qy _ _) rfl (by rw[HZ.out.qe];exact HY.out.2 _) (by have:=HZ.out.qf;have:=f.out.qc;omega) (HZ.out.rg _) ?_;intro bS bR w' Q ae;have HE:=BX (A2 Q ae);clear Q ae);go_roundw;case rel =>
       refine⟨a+1,by go_num,f.out.qc,?_,?_⟩
       ·rw[f.out.qd];exact HE.out.1
       ·have bF:=HZ.out.1.alloc (.cells #[.int .u8 n,.int .i64 a,.int .u64 fl,.int .u64 inc,.int .u64 0,.int .u64 y.low,.int .u64 ((y.low:Int)+(y.width:Int)),.slice ro rn rc,.slice AI 0 0] 69);exact bF.absorb HE.out.2 (λb hb=>(f.out.1.kind b hb).1)
      case measure=>have:=f.out.qc;simp[C0];omega
    ·have bE:¬(a:Int)<16:=by omega
     have bD:a=16:=by omega
     subst bD;have f:=BX hI;clear hI G ha;go_wp2_with fail;go_meet;exact f.out
  case rest =>
   obtain⟨E,kr⟩:=hcut
   rename AC=>w8
   obtain⟨vo,vc,rfl,_,_⟩:=E.form;have am:=HH.out.2.1.keep HA.out.2.1 HA.out.2.2.2;have A:=am.no kr;have bL:=λi=>Qg A.blk i;have c:=λi=>Qq A.blk i;have e1:=c 1;have e2:=c 2;have e3:=c 3;have e4:=c 4;have e5:=c 5;have e6:=c 6;have e7:=c 7;have e8:=c 8;have e9:=c 9;have aw:=c 10;have ax:=c 11;have ay:=c 12;have az:=c 13;have bA:=c 14;have bB:=c 15;have bC:=c 16;simp[Sm]at e1 e2 e3 e4 e5 e6 e7 e8 e9 aw ax ay az bA bB bC;have kz:=Fl w8 R;have hz:=(YK A).blk;have ah:=((HA.out.1.no kr).cellsAt A.blk (by simp) (by simp) (by simp) A.pb kz).1;have aJ:Sg (Sc w8 R) w.heap.size (.slice vo (Sw S.L o 16).length vc) (Sw S.L o 16):=by
    have h1:=E.keep (F:=(·=R)) (λb hb bG=>by
     have e:b=R:=hb;subst e;obtain⟨bK,fr,e2⟩:=bG;rw[A.blk]at e2;simp at e2) kz (λb hb e=>by
     have e:b=R:=e;subst e;obtain⟨_,aZ,e2⟩:=E.kind b hb;rw[A.blk]at e2
     simp at e2)
    obtain⟨xs,x1,x2,x3⟩:=h1;exact⟨xs,x1,x2,x3.1,x3.2.imp id (λ⟨g,cap,aZ,y1,y2,y3⟩=>⟨g,cap,aZ,y1,BF HA.out.2.1.size y2,y3⟩)⟩
   have af:Xy (λb=>F b\/b=R) w (Sc w8 R):=((HA.out.2.1.mono (λb _ e=>(Or.inl e:F b\/b=R))).then kr).trans kz (λb _ e=>.inr e);have HF:=BX (A5 aJ ah hz af A.pb);unfold Sc at HF;clear E kr am A c kz hz ah aJ af;go_wp2_with fail;go_ret;exact⟨_,rfl,by rw[<- HO.out];exact HF.out.1,F1,HF.out.2.1,⟨HF.out.qc,rfl,HF.out.re⟩,HF.out.qd,HA.out.qc⟩
end
end Go.Proofs.YtfdmbomlkpkegaaGreat
