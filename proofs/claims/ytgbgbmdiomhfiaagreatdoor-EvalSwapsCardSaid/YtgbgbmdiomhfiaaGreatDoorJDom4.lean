/-
 Dom4.
-/
import Derived.Shelf.Slices.In.SortNone
import Derived.RegionCalls
import Derived.Deep.RegionHeld3
import Derived.Test.YtgbgbmdiomhfiaaGreatDoorJVr1
import Derived.Test.YtgbgbmdiomhfiaaGreatDoorJRegPar
import Derived.Test.YtgbgbmdiomhfiaaGreatDoorJKx
set_option linter.unusedSimpArgs false
set_option linter.unusedVariables false
set_option maxHeartbeats 8000000
set_option maxRecDepth 100000
namespace Go.Proofs.YtgbgbmdiomhfiaaGreatDoor
open Go.RowKit Go.Maps
theorem sort_own{base n c:Nat}{A:Option Addr}{l:List Int}{w:World}(h:w.ownsRow base 3 1 (.slice A n c) n (ints l))(hn:n≤4611686018427387903):
 Calls Tryz.prog 67 #[.slice A n c] w fun e w'=>e=.returned (.tuple #[])∧(∃l':List Int,l'.length=l.length∧w'.ownsRow base 3 1 (.slice A n c) n (ints l'))∧w.grownBy w' (Value.slice A n c).ownBlock:=by
 have hl:l.length=n:=by simpa[ints]using h.1
 have h':=h;rcases h'.2 with⟨hv,hn0⟩|⟨g,cap,cur,hv,hb,hh,h1,h2,h3,h4⟩
 ·cases hv;refine(Any.slices_Sort_int_none lays189 none 0 w).mono fun e w' ⟨he,hw⟩=>?_
  subst hw;exact⟨he,⟨l,rfl,h⟩,⟨rfl,rfl,rfl,Nat.le_refl _,fun _ _ _=>rfl⟩⟩
 ·cases hv;subst hl;have hH:=holds_of_blockI (ss:=l) hh (by rw[Nat.mul_one]at h4;exact h4);refine(Any.slices_Sort_int lays189 g 0 c l w hH (Array.getElem?_eq_some_iff.1 hh).1 (by omega)).mono fun e w' ⟨he,k,os,hw⟩=>?_
  subst hw;have e0:(l.mergeSort fun x y=>decide (x≤y)).length=l.length:=List.length_mergeSort _;exact⟨he,⟨_,e0,ownsRow_sortedI (w:=w) (n:=k) (os:=os) (ss:=l) e0 hb hh h1 h2 h3⟩,grownBy_sortedI (w:=w) (g:=g) (n:=k) (os:=os) _⟩
def NewTree(w:World)(n:Nat)(ps:List (List Int))(v:Value)(w':World):Prop:=
 ∃(gt gp gi gd gk:Nat) (hs:List (Option Addr×Nat)) (rest:List Value),v=.pointer (some ⟨gt,0,none⟩)∧
  Blk w' gt 197 ⟨.slice (some ⟨gp,0,none⟩) n n:: .slice (some ⟨gi,0,none⟩) n n:: .slice (some ⟨gd,0,none⟩) n n:: .slice (some ⟨gk,0,none⟩) n n::rest⟩∧
  Blk w' gp 38 ⟨hdrs hs ps⟩∧OwnMat w' (gp+1) 3 hs ps∧Blk w' gi 3 ⟨ints (List.replicate n 0)⟩∧Blk w' gd 3 ⟨ints (List.replicate n 0)⟩∧Blk w' gk 38 ⟨hdrs (List.replicate n (none,0)) (List.replicate n [])⟩∧
  w.heap.size≤gt∧w.heap.size≤gp∧w.heap.size≤gi∧w.heap.size≤gd∧w.heap.size≤gk∧gi≠gd∧gi≠gk∧gd≠gk∧gt≠gi∧gt≠gd∧gt≠gk∧gt≠gp∧gp≠gk∧gp≠gi∧gp≠gd∧
  (∀(k:Nat) (h:Option Addr×Nat) (b:Nat),hs[k]? =some h→h.1.map (·.block)=some b→b≠gt∧b≠gi∧b≠gd∧b≠gk)∧Below w.heap.size w w'
def DomPost(w:World)(g:List (List Int))(e:Ending)(w':World):Prop:=
 ∃gt gi gd idm dep,e=.returned (.pointer (some ⟨gt,0,none⟩))∧TreeAt w' gt gi gd g.length idm dep∧TreeOk (EI g) g.length idm dep∧w.heap.size≤gt∧w.heap.size≤gi∧w.heap.size≤gd∧Below w.heap.size w w'
theorem domOf_any(A:Option Addr)(c:Nat)(g:List (List Int))(w:World)(hr:RdL rowShape w (· <w.heap.size) A g)(hn:g.length≤2000)(hn0:0<g.length)(hc:g.length≤c)(hrow:∀i,i<g.length→(g.getD i []).length≤100000000):
 Calls Tryz.prog 47 #[.slice A g.length c] w (DomPost w g):=by
 have hPP:∀gt gi gd idm dep w',TreeAt w' gt gi gd g.length idm dep→TreeOk (EI g) g.length idm dep→w.heap.size≤gt→w.heap.size≤gi→w.heap.size≤gd→Below w.heap.size w w'→DomPost w g (.returned (.pointer (some ⟨gt,0,none⟩))) w':=fun gt gi gd idm dep w' h1 h2 h3 h4 h5 h6=>⟨gt,gi,gd,idm,dep,rfl,h1,h2,h3,h4,h5,h6⟩
 have HP:=eh hPP;clear hPP;generalize DomPost w g=Post at*;have hm1:=fun W=>run_make_row' (P:=Tryz.prog) 144 38 (.slice none 0 0) 24 Tryz.underlying144 infoSl rfl .i64 .i64 g.length (by omega) (by omega) W
 have hm2:=fun W=>run_make_row' (P:=Tryz.prog) 38 3 (.int .i64 0) 8 Tryz.underlying38 infoIntR rfl .i64 .i64 g.length (by omega) (by omega) W
 rw[made_hdrs]at hm1;rw[made_ints]at hm2;have hpl:((predsF (cleanF g)).map nats).length=g.length:=by simp[predsF,cleanF_len]
 have Hord:=eh (fun W (hb:Below w.heap.size w W)=>order_any A c g W ((hr.below (B:=w.heap.size) hb (fun _ h=>h)).more (fun b h=>Nat.lt_of_lt_of_le h hb.size)) (by omega) hrow);have Hpr:=eh (fun W hb=>preds_any A c g W ((hr.below (B:=w.heap.size) hb (fun _ h=>h)).more (fun b h=>Nat.lt_of_lt_of_le h hb.size)) (by omega) hrow);have hmn:min (g.length:Int) 2000=g.length:=by omega
 generalize hps:(predsF (cleanF g)).map nats=ps at*;have Hps:=eh hps;clear hps hr hrow;go_enter Tryz.func47,Tryz.ntmps47;go_wp2;go_cut [3]from 19 to 31 (fun v wx=>NewTree w g.length ps v wx)
 case first=>
  refine uE (S:=Below w.heap.size w) (fun _=>true) (by kernel_rfl) (Below.refl _ _).drew (fun HS=>?_);refine uB 0 19 rfl HS (.inl ⟨rfl,fun W hW=>by go_simp;rfl⟩) ?_;simp only[pS];refine uB 2 21 rfl HS (.inl ⟨rfl,fun W hW=>by go_simp;rfl⟩) ?_;simp only[pS];refine uB 3 22 rfl HS (.inl ⟨rfl,fun W hW=>by go_simp;rfl⟩) ?_;simp only[pS];refine uB 5 24 rfl HS (.inl ⟨rfl,fun W hW=>by go_simp;rfl⟩) ?_;simp only[pS];refine uB 6 25 rfl HS (.inl ⟨rfl,fun W hW=>by go_simp;rfl⟩) ?_;simp only[pS];refine uB 8 27 rfl HS (.inl ⟨rfl,fun W hW=>by go_simp;rfl⟩) ?_;simp only[pS];refine uB 9 28 rfl HS (.inl ⟨rfl,fun W hW=>by go_simp;rfl⟩) ?_;simp only[pS];refine wpAnyJ_par4 (w0:=w) (fuel:=3) 1 4 7 10 20 23 26 29 undef undef undef undef
   (fun lo hi v W=>∃gp hs,lo≤gp∧gp<hi∧v=.slice (some ⟨gp,0,none⟩) g.length g.length∧Blk W gp 38 ⟨hdrs hs ps⟩∧OwnMat W (gp+1) 3 hs ps∧(∀(k:Nat) (h:Option Addr×Nat) (b:Nat),hs[k]? =some h→h.1.map (·.block)=some b→b<hi))
   (fun lo hi v W=>lo+1=hi∧v=.slice (some ⟨lo,0,none⟩) g.length g.length∧Blk W lo 3 ⟨ints (List.replicate g.length 0)⟩)
   (fun lo hi v W=>lo+1=hi∧v=.slice (some ⟨lo,0,none⟩) g.length g.length∧Blk W lo 3 ⟨ints (List.replicate g.length 0)⟩)
   (fun lo hi v W=>lo+1=hi∧v=.slice (some ⟨lo,0,none⟩) g.length g.length∧Blk W lo 38 ⟨hdrs (List.replicate g.length (none,0)) (List.replicate g.length [])⟩)
   rfl rfl rfl rfl rfl rfl rfl rfl ?hA (by kernel_rfl) (by decide) (by decide) (by decide) (by decide) (by decide) (by decide) (by decide) (by decide) (by decide) (by decide) (by decide) (by decide) ?hr ?t1 ?t2 ?t3 ?t4 ?s1 ?s2 ?s3 ?s4 ?more HS
  case hA=>simp only[A4,Act.put,List.setIfInBounds_toArray,List.set_cons_zero,List.set_cons_succ]
  case hr=>
   intro b1 b2 b3 b4;cases b1<;>cases b2<;>cases b3<;>cases b4<;>first|(intro h;cases h;done)|(intro _;kernel_rfl)
  case t1=>
   rintro lo hi v W W' ⟨gp,hs,h1,h2,rfl,h3,h4,h5⟩ hb;exact⟨gp,hs,h1,h2,rfl,h3.below hb h3.lt,h4.below hb (Nat.le_refl _),h5⟩
  case t2=>
   rintro lo hi v W W' ⟨h1,rfl,h3⟩ hb;exact⟨h1,rfl,h3.below hb h3.lt⟩
  case t3=>
   rintro lo hi v W W' ⟨h1,rfl,h3⟩ hb;exact⟨h1,rfl,h3.below hb h3.lt⟩
  case t4=>
   rintro lo hi v W W' ⟨h1,rfl,h3⟩ hb;exact⟨h1,rfl,h3.below hb h3.lt⟩
  case s1=>
   intro v2 v3 v4 w1 hb K hK;simp only[A4,Act.put,List.setIfInBounds_toArray,List.set_cons_zero,List.set_cons_succ]at hK⊢;have HK:=eh hK;clear hK;go_simp;refine(Hpr.out w1 hb).mono ?_;rintro e w2 ⟨G,hs,rfl,h1,h2,h3,h4⟩;exact HK.out _ _ h4 ⟨G,hs,h3,h1.lt,by rw[hpl],h1,h2,fun k h b e1 e2=>(h2.block e1 e2).2⟩
  case s2=>
   intro v2 v3 v4 w1 hb K hK;simp only[A4,Act.put,List.setIfInBounds_toArray,List.set_cons_zero,List.set_cons_succ]at hK⊢;have HK:=eh hK;clear hK;go_simp;exact HK.out _ _ ((Below.refl _ _).alloc (Nat.le_refl _) _) ⟨by simp,rfl,Blk.new _ _ _⟩
  case s3=>
   intro v1 v2 v4 w1 hb K hK;simp only[A4,Act.put,List.setIfInBounds_toArray,List.set_cons_zero,List.set_cons_succ]at hK⊢;have HK:=eh hK;clear hK;go_simp;exact HK.out _ _ ((Below.refl _ _).alloc (Nat.le_refl _) _) ⟨by simp,rfl,Blk.new _ _ _⟩
  case s4=>
   intro v1 v2 v3 w1 hb K hK;simp only[A4,Act.put,List.setIfInBounds_toArray,List.set_cons_zero,List.set_cons_succ]at hK⊢;have HK:=eh hK;clear hK;go_simp;exact HK.out _ _ ((Below.refl _ _).alloc (Nat.le_refl _) _) ⟨by simp,rfl,Blk.new _ _ _⟩
  case more=>
   rintro v1 v2 v3 v4 lo1 hi1 lo2 hi2 lo3 hi3 lo4 hi4 w1 HS ⟨gp,hs,a1,a2,rfl,a3,a4,a5⟩ b1 b2 b3 ⟨c1,rfl,c3⟩ c4 c5 c6 ⟨d1,rfl,d3⟩ d4 d5 d6 ⟨e1,rfl,e3⟩ e4 e5 e6 p12 p13 p14 p23 p24 p34;simp only[A4,Act.put,List.setIfInBounds_toArray,List.set_cons_zero,List.set_cons_succ];refine uB 11 30 rfl HS (.inl ⟨rfl,fun W hW=>by go_simp;rfl⟩) ?_;simp only[pS];refine uN 12 rfl (fun K HK=>?_);go_simp;refine HK.out _ _ (fun _=>HS.alloc HS.size _) ?_;clear HK;refine uB 13 3 rfl (HS.alloc HS.size _) (.inl ⟨rfl,fun W hW=>by go_simp;rfl⟩) ?_;simp only[pS];refine uD (by kernel_rfl) ?_ _;go_wp2_with fail;go_meet;refine⟨w1.heap.size,gp,lo2,lo3,lo4,hs,_,rfl,Blk.new _ _ _,a3.alloc _,a4.alloc _,c3.alloc _,d3.alloc _,e3.alloc _,?_⟩;have hz:=HS.size;have l1:=a3.lt;have l2:=c3.lt;have l3:=d3.lt;have l4:=e3.lt;refine⟨by omega,by omega,by omega,by omega,by omega,by omega,by omega,by omega,by omega,by omega,by omega,by omega,by omega,by omega,by omega,fun k h b f1 f2=>?_,HS.alloc HS.size _⟩;have f3:=(a4.block f1 f2).1;have f4:=a5 k h b f1 f2;omega
 case rest=>
  obtain⟨gt,gp,gi,gd,gk,hs,rest,rfl,bT,bP,mP,bI,bD,bK,i1,i2,i3,i4,i5,j1,j2,j3,j4,j5,j6,j7,j8,j9,j10,hrows,hb⟩:=hcut;go_wp2_with fail;refine(Hord.out _ hb).mono ?_;rintro e w1 ⟨A1,c1,l,rfl,own,hb1,-,hll,hl0⟩;obtain⟨⟨r,hlr⟩,hnd,tp,O⟩:=hl0 hn0;have hl1:1≤l.length:=by rw[hlr];simp
  have hz0:l[0]? =some 0:=by rw[hlr];rfl
  have hzc:=hb.size;have hz1:=hb1.size;obtain⟨go,rfl,hlc,hgo1,hgo2⟩:∃go,A1=some ⟨go,0,none⟩∧l.length≤c1∧wc.heap.size≤go∧go<w1.heap.size:=by
   rcases own_forms own with⟨_,h,_⟩|⟨g,h1,h2,h3,h4⟩
   ·omega
   ·exact⟨g,h1,h2,h3,h4⟩
  have rO:RdS w1 (fun b=>b=go) 1 (some ⟨go,0,none⟩) l.length (ints (nats l)):=own_rds own rfl;have bT1:=bT.below hb1 bT.lt;have bP1:=bP.below hb1 bP.lt;have bI1:=bI.below hb1 bI.lt;have bD1:=bD.below hb1 bD.lt;have bK1:=bK.below hb1 bK.lt;have mP1:=mP.below hb1 (Nat.le_refl _);have hbb:=hb.trans (hb1.mono hzc);have lT:=bT.lt;have lP:=bP.lt;have lI:=bI.lt;have lD:=bD.lt;have lK:=bK.lt;have Hrows:=eh hrows;have HO:=eh (show Ordd (EI g) l (fun k=>l.idxOf k) tp∧l.Nodup∧l[0]? =some 0 from⟨O,hnd,hz0⟩);clear bT bP bI bD bK mP hb hb1 own Hord hrows O hnd hz0 hlr Hpr hm1;have hga:w1.heap.size≤w1.heap.size:=Nat.le_refl _;obtain⟨ga,hgae⟩:∃ga,ga=w1.heap.size:=⟨_,rfl⟩;have bA2:=Blk.newAt (w:=w1) (g:=ga) hgae.symm 3 ⟨ints (List.replicate g.length 0)⟩;have bT2:=bT1.alloc (.cells ⟨ints (List.replicate g.length 0)⟩ 3);have bP2:=bP1.alloc (.cells ⟨ints (List.replicate g.length 0)⟩ 3);have bI2:=bI1.alloc (.cells ⟨ints (List.replicate g.length 0)⟩ 3);have bD2:=bD1.alloc (.cells ⟨ints (List.replicate g.length 0)⟩ 3);have bK2:=bK1.alloc (.cells ⟨ints (List.replicate g.length 0)⟩ 3);have mP2:=mP1.alloc (.cells ⟨ints (List.replicate g.length 0)⟩ 3);have rO2:=rO.keep (Kept.alloc (Kept.refl (fun b=>b=go) w1) (fun b h=>by omega) (.cells ⟨ints (List.replicate g.length 0)⟩ 3));have hb2:=hbb.alloc hbb.size (.cells ⟨ints (List.replicate g.length 0)⟩ 3);have hz2:(w1.alloc (.cells ⟨ints (List.replicate g.length 0)⟩ 3)).heap.size=ga+1:=by rw[hgae];simp
  clear bT1 bP1 bI1 bD1 bK1 rO hbb hga;go_wp2;rw[←hgae];have mT:gt<ga:=by omega
  have mP':gp<ga:=by omega
  have mI:gi<ga:=by omega
  have mD:gd<ga:=by omega
  have mK:gk<ga:=by omega
  have mO:go<ga:=by omega
  have mW:w.heap.size≤ga:=by omega
  have hoT:go≠gt:=by omega
  have hoI:go≠gi:=by omega
  have hoD:go≠gd:=by omega
  have hoK:go≠gk:=by omega
  have Hrw:=eh (fun(k:Nat) (h:Option Addr×Nat) (b:Nat) (e1:hs[k]? =some h) (e2:h.1.map (·.block)=some b)=>(show b≠ga by have:=(mP1.block e1 e2).2;omega));generalize w1.alloc (.cells ⟨ints (List.replicate g.length 0)⟩ 3)=w2 at*;have Hz2:=eh hz2;clear hz2 hgae hgo1 hgo2 hz1 hzc lT lP lI lD lK mP1;clear w1;rw[←initF_zero]at bI2 bA2;go_loopw [39] (fun iv wr=>∃k:Nat,k≤g.length∧iv=.int .i64 k∧Blk wr gi 3 ⟨ints (initF k g.length)⟩∧Blk wr ga 3 ⟨ints (initF k g.length)⟩∧Hid (KB (fun b=>b≤ga∧b≠gi∧b≠ga) w2 wr)∧Hid (wr.heap.size=ga+1)∧Below w.heap.size w wr) (fun iv _=>g.length-(intOf iv).toNat)
  case atStart=>exact⟨0,Nat.zero_le _,rfl,bI2,bA2,eh (KB.refl _ _),Hz2,hb2⟩
  case round=>
   clear bI2 bA2 hb2;obtain⟨k,hk,rfl,bI,bA,K,hz,hb⟩:=hrel
   by_cases hlt:k<g.length
   ·have k0:(0:Int)≤k:=by omega
    have k1:(k:Int)<g.length:=by omega
    have bT:=bT2.kb K.out ⟨by omega,j4,by omega⟩;have y1:=bT.at1;have y2:=uH bI (show k<(initF k g.length).length by rw[initF_len hk];exact hlt);have y3:=uH bA (show k<(initF k g.length).length by rw[initF_len hk];exact hlt);have f2:=bI.frozen k;have f3:=bA.frozen k;have ne1:gi≠ga:=by omega
    have lI2:=bI.lt;have lA2:=bA.lt;clear bT;go_wp2;go_roundw
    case rel=>
     have b1:=(uL bI k (-1)).far (p:=⟨ga,k,none⟩) ne1 (.int .i64 (-1));have b2:=uL (bA.far (p:=⟨gi,k,none⟩) (Ne.symm ne1) (.int .i64 (-1))) k (-1);rw[initF_set hlt]at b1 b2;exact⟨k+1,by omega,by go_num,b1,b2,eh ((K.out.set (p:=⟨gi,k,none⟩) (by simp) _).set (p:=⟨ga,k,none⟩) (by simp) _),eh (by simpa using hz.out),(hb.setCell i3 _).setCell (by show w.heap.size≤ga;omega) _⟩
    case measure=>simp[intOf];omega
   · --loop 2
    have e:k=g.length:=by omega
    subst e;have hge:¬(g.length:Int)<g.length:=by omega
    rw[initF_all]at bI bA;have Hlt:=eh (fun i (hi:i∈l)=>reach_lt ((HO.out.1.mem i).1 hi) hn0);clear hlt;generalize wr=w5 at*;go_wp2;go_loopw [54] (fun iv wx=>∃(k:Nat) (al:List Int),k≤l.length∧iv=.int .i64 k∧Hid (AtK l k g.length al)∧Blk wx ga 3 ⟨ints al⟩∧Hid (KB (fun b=>b≤ga∧b≠ga) w5 wx)∧Hid (wx.heap.size=ga+1)∧Below w.heap.size w wx) (fun iv _=>l.length-(intOf iv).toNat)
    case atStart=>exact⟨0,_,Nat.zero_le _,rfl,eh AtK.start,bA,eh (KB.refl _ _),hz,hb⟩
    case round=>
     clear bA hz hb;obtain⟨k,al,hk,rfl,HA,bA,K2,hz,hb⟩:=hrel
     by_cases hlt:k<l.length
     ·have k0:(0:Int)≤k:=by omega
      have k1:(k:Int)<l.length:=by omega
      obtain⟨q,hq⟩:∃q,l[k]? =some q:=⟨_,List.getElem?_eq_getElem hlt⟩;have hqn:=Hlt.out q (List.mem_of_getElem? hq);have rO3:=(rO2.keep (K.out.kept.sub (fun b h=>by subst h;exact⟨by omega,hoI,by omega⟩))).keep (K2.out.kept.sub (fun b h=>by subst h;exact⟨by omega,by omega⟩));obtain⟨bo,oo,e1,hbo,y1⟩:=uX (rO3.rd (B:=ga) (fun b h=>by omega)) (k:=k) hlt;injection e1 with e1
      injection e1 with e1 e2
      subst e1 e2;have hqv:(nats l)[k]?.getD 0=(q:Int):=by simp[nats,hq]
      rw[hqv,Nat.zero_add]at y1;have q0:(0:Int)≤q:=by omega
      have q1:(q:Int)<g.length:=by omega
      have y2:=uH bA (show q<al.length by rw[HA.out.len];exact hqn);have f2:=bA.frozen q;have HA2:=eh (HA.out.step HO.out.2.1 hq hqn);clear hq hqv rO3;go_wp2;go_roundw
      case rel=>exact⟨k+1,_,by omega,by go_num,HA2,uL bA q k,eh (K2.out.set (p:=⟨ga,q,none⟩) (by simp) _),eh (by simpa using hz.out),hb.setCell (by show w.heap.size≤ga;omega) _⟩
      case measure=>simp[intOf];omega
     · --settle
      generalize wr=wx at*;have e:k=l.length:=by omega
      subst e;have hge:¬(l.length:Int)<l.length:=by omega
      have hAL:=HA.out.fin HO.out.2.1 Hlt.out;have l0:(0:Int)<l.length:=by omega
      have bT:=(bT2.kb K.out ⟨by omega,j4,by omega⟩).kb K2.out ⟨by omega,by omega⟩;have bP:=(bP2.kb K.out ⟨by omega,by omega,by omega⟩).kb K2.out ⟨by omega,by omega⟩;have bI3:=bI.kb K2.out ⟨by omega,by omega⟩;have bD3:=(bD2.kb K.out ⟨by omega,Ne.symm j1,by omega⟩).kb K2.out ⟨by omega,by omega⟩;have bK3:=(bK2.kb K.out ⟨by omega,Ne.symm j2,by omega⟩).kb K2.out ⟨by omega,by omega⟩;have mP:=(mP2.kb K.out (fun k h b e1 e2=>⟨by have:=(mP2.block e1 e2).2;rw[Hz2.out]at this;omega,(Hrows.out k h b e1 e2).2.1,Hrw.out k h b e1 e2⟩)).kb K2.out (fun k h b e1 e2=>⟨by have:=(mP2.block e1 e2).2;rw[Hz2.out]at this;omega,Hrw.out k h b e1 e2⟩);have hpr:=mP.rd2 bP (S:=fun b=>b<wx.heap.size∧b≠gi) ⟨bP.lt,j9⟩ (fun k h b e1 e2=>⟨(mP.block e1 e2).2,(Hrows.out k h b e1 e2).2.1⟩);have rO3:=(rO2.keep (K.out.kept.sub (fun b h=>by subst h;exact⟨by omega,hoI,by omega⟩))).keep (K2.out.kept.sub (fun b h=>by subst h;exact⟨by omega,by omega⟩));rw[←Hps.out]at hpr;have hset:=eh (settle_any HO.out.1 (idx_at HO.out.2.1 HO.out.2.2) (fun m k h=>idx_at HO.out.2.1 h) hAL hn0 (by omega) hll (by simp[predsF,cleanF_len]) (fun k hk p=>mem_predsF hk) (fun k=>Nat.le_trans (predsF_le g k) (by omega)) wx gt gi ga gp go c1 bI3.lt j4 (by omega) bT.at0 bT.at1 bI3 bA hpr (rO3.more (fun b h=>by subst h;exact⟨by rw[hz.out];omega,hoI⟩)) hlc);have rOx:=rO3.more (S':=fun b=>b<wx.heap.size∧b≠gi) (fun b h=>by subst h;exact⟨by rw[hz.out];omega,hoI⟩);clear bP mP hpr bI bI3 bA hAL HA;go_wp2_with fail;refine hset.out.mono ?_;rintro e w3 ⟨idl,rfl,bI,D,hg3⟩;have bT3:=bT.grown hg3 (by simp;exact j4);have bD4:=bD3.grown hg3 (by simp;exact Ne.symm j1);have bK4:=bK3.grown hg3 (by simp;exact Ne.symm j2);have rO4:=(rO3.keep (Kept.grown (S:=fun b=>b=go) (Kept.refl _ _) hg3 (fun b h=>by subst h;rw[hz.out];omega) (fun b h=>by subst h;simp;exact hoI)));have hb3:=hb.grown hg3 hb.size (fun j hj=>by cases hj;exact i3);have hz3:ga+1≤w3.heap.size:=by have:=hg3.size;rw[hz.out]at this;exact this
      have hmin:min 1 (l.length:Int)=1:=by omega
      have hc1:(1:Int)≤c1:=by omega
      have hl1':(1:Int)≤l.length:=by omega
      obtain⟨m,hm⟩:∃m,l.length=m+1:=⟨l.length-1,by omega⟩;have hD:=eh D;have Hm:=eh hm;clear bT bD3 bK3 rO3 hb hg3 D rOx hset hz K K2 Hz2 bT2 bP2 bD2 bK2 mP2 rO2 hm;go_upto_region 17 with(fail);go_cut [75,76,77]from 71 to 77 (fun v n k wy=>∃(A':Option Addr) (c':Nat),v=.slice A' (l.length-1) c'∧n=.int .i64 ((l.length-1:Nat):Int)∧k=.int .i64 0∧wy=w3∧(0<l.length-1→A'=some ⟨go,1,none⟩))
      case first=>
       go_wp2
       ·have e:c1=1:=by omega
        subst e;go_meet;exact⟨_,_,rfl,by congr 2,rfl,rfl,fun h=>by omega⟩
       ·go_meet;exact⟨_,_,rfl,by congr 2,rfl,rfl,fun _=>rfl⟩
      case rest=>
       obtain⟨A',c',rfl,rfl,rfl,rfl,hA'⟩:=hcut;go_wp2;go_loopw [77] (fun iv wr=>∃(k:Nat) (dl:List Int) (hsk:List (Option Addr×Nat)) (lsk:List (List Int)),k≤l.length-1∧iv=.int .i64 k∧Hid (DepK idl l g.length k dl)∧Blk wr gd 3 ⟨ints dl⟩∧Blk wr gk 38 ⟨hdrs hsk lsk⟩∧OwnMat wr (ga+1) 3 hsk lsk∧lsk.length=g.length∧Hid (∀j,(lsk.getD j []).length≤k)∧Hid (KB (fun b=>b≤ga∧b≠gd∧b≠gk) wc wr)∧ga+1≤wr.heap.size∧Below w.heap.size w wr) (fun iv _=>l.length-(intOf iv).toNat)
       case atStart=>exact⟨0,_,_,_,Nat.zero_le _,rfl,eh DepK.start,bD4,bK4,OwnMat.made _ _ _ _,by simp,eh (fun j=>by simp[List.getD_eq_getElem?_getD,List.getElem?_replicate];split<;>simp),eh (KB.refl _ _),hz3,hb3⟩
       case round=>
        clear bD4 bK4 hb3 hz3;obtain⟨k,dl,hsk,lsk,hk,rfl,HD,bD,bK,mK',hlk,HL,K3,hz3,hb⟩:=hrel
        by_cases hlt:k<l.length-1
        ·obtain⟨q,hq⟩:∃q,l[k+1]? =some q:=⟨_,List.getElem?_eq_getElem (by omega)⟩;have hqn:=Hlt.out q (List.mem_of_getElem? hq);obtain⟨u,hu,m',hm',hum⟩:=done_up hD.out HO.out.2.1 HO.out.2.2 (m:=k+1) (by omega) hq;have hun:=Hlt.out u (List.mem_of_getElem? hum);have huq:u≠q:=fun e=>by subst e;have:=nodup_at HO.out.2.1 hq hum;omega
         have hdl:=HD.out.low m' u (by omega) hum;have HD2:=eh (HD.out.step HO.out.2.1 HO.out.2.2 (fun m i v h1 h2 h3=>by
          obtain⟨v',e1,m2,h4,h5⟩:=done_up hD.out HO.out.2.1 HO.out.2.2 h1 h2;obtain rfl:v=v':=by omega
          exact⟨m2,h4,h5⟩) hq hqn hu)
         have bT:=bT3.kb K3.out ⟨by omega,j5,j6⟩;have bIr:=bI.kb K3.out ⟨by omega,j1,j2⟩;have y0:=uH bIr (show q<idl.length by rw[hD.out.len];exact hqn);rw[hu]at y0;have rO5:=rO4.keep (K3.out.kept.sub (fun b h=>by subst h;exact⟨by omega,hoD,hoK⟩));obtain⟨bo,oo,e1,hbo,y1⟩:=uX (rO5.rd (B:=ga) (fun b h=>by omega)) (k:=k+1) (by omega);injection e1 with e1
         injection e1 with e1 e2
         subst e1 e2;have hqv:(nats l)[k+1]?.getD 0=(q:Int):=by simp[nats,hq]
         rw[hqv,show 0+(k+1)=1+k by omega]at y1;have hA'':=hA' (by omega);subst hA'';have yd:=uH bD (show u<dl.length by rw[HD.out.len];exact hun);have yq:=uH bD (show q<dl.length by rw[HD.out.len];exact hqn);have fq:=bD.frozen q;obtain⟨A2,c2,hh1,hh2,hown⟩:=mK'.get (k:=u) (by omega);have yk:=hdrs_cell bK hh1 hh2;have hla:=HL.out u;generalize dl.getD u 0=du at*;generalize lsk.getD u []=la at*;have y1t:=bT.at1;have y2:=bT.at2;have y3:=bT.at3;have k0:(0:Int)≤k:=by omega
         have k1:(k:Int)<((l.length-1:Nat):Int):=by omega
         have q0:(0:Int)≤q:=by omega
         have q1:(q:Int)<g.length:=by omega
         have u0:(0:Int)≤u:=by omega
         have u1:(u:Int)<g.length:=by omega
         have d0:0≤du:=by omega
         have d1:du≤100000:=by omega
         have hwr:IntKind.i64.wrap (du+1)=du+1:=IntWalk.i64_in _ (by omega);have Hla:=eh hla;have Hdl:=eh hdl;clear hA' hqv hq hum hla hdl hu bT rO5;go_wp2;refine uE (S:=fun W=>W.cell? ⟨gt,2,none⟩=some (.slice (some ⟨gd,0,none⟩) g.length g.length)∧W.cell? ⟨gd,u,none⟩=some (.int .i64 du)) (fun j=> !(j==14)) (by kernel_rfl) ⟨y2,yd⟩ (fun HS=>?_);refine uB 0 88 rfl HS (.inl ⟨rfl,fun W hW=>by obtain⟨hW1,hW2⟩:=hW;go_simp;rfl⟩) ?_;simp only[pS];refine uB 1 89 rfl HS (.inl ⟨rfl,fun W hW=>by obtain⟨hW1,hW2⟩:=hW;go_simp;rfl⟩) ?_;simp only[pS];refine uB 2 90 rfl HS (.inl ⟨rfl,fun W hW=>by obtain⟨hW1,hW2⟩:=hW;go_simp;rfl⟩) ?_;simp only[pS];refine uB 3 91 rfl HS (.inl ⟨rfl,fun W hW=>by obtain⟨hW1,hW2⟩:=hW;go_simp;rfl⟩) ?_;simp only[pS];refine uB 4 92 rfl HS (.inl ⟨rfl,fun W hW=>by obtain⟨hW1,hW2⟩:=hW;go_simp;rfl⟩) ?_;simp only[pS];refine uB 5 93 rfl HS (.inl ⟨rfl,fun W hW=>by obtain⟨hW1,hW2⟩:=hW;go_simp;rfl⟩) ?_;simp only[pS];refine uB 6 94 rfl HS (.inl ⟨rfl,fun W hW=>by obtain⟨hW1,hW2⟩:=hW;go_simp;rfl⟩) ?_;simp only[pS];refine uB 7 95 rfl HS (.inl ⟨rfl,fun W hW=>by obtain⟨hW1,hW2⟩:=hW;go_simp;rfl⟩) ?_;simp only[pS];refine uB 8 96 rfl HS (.inl ⟨rfl,fun W hW=>by obtain⟨hW1,hW2⟩:=hW;go_simp;rfl⟩) ?_;simp only[pS];refine uB 9 97 rfl HS (.inl ⟨rfl,fun W hW=>by obtain⟨hW1,hW2⟩:=hW;go_simp;rfl⟩) ?_;simp only[pS];refine uB 10 98 rfl HS (.inl ⟨rfl,fun W hW=>by obtain⟨hW1,hW2⟩:=hW;go_simp;rfl⟩) ?_;simp only[pS];refine uB 11 99 rfl HS (.inl ⟨rfl,fun W hW=>by obtain⟨hW1,hW2⟩:=hW;go_simp;rfl⟩) ?_;simp only[pS];refine uB 12 100 rfl HS (.inl ⟨rfl,fun W hW=>by obtain⟨hW1,hW2⟩:=hW;go_simp;rfl⟩) ?_;simp only[pS];refine uB 13 101 rfl HS (.inl ⟨rfl,fun W hW=>by obtain⟨hW1,hW2⟩:=hW;go_simp;rfl⟩) ?_;simp only[pS];refine uN 14 rfl (fun K HK=>?_);clear HS;go_simp;refine HK.out _ _ (fun h=>by cases h) ?_;clear HK;refine uD (by kernel_rfl) ?_ _;have bD':=uL bD q (du+1);have bT':=(bT3.kb K3.out ⟨by omega,j5,j6⟩).far (p:=⟨gd,q,none⟩) j5 (.int .i64 (du+1));have bK':=bK.far (p:=⟨gd,q,none⟩) (Ne.symm j3) (.int .i64 (du+1));have mK6:=mK'.far (uA wr ⟨gd,q,none⟩ (.int .i64 (du+1))) (show gd<ga+1 by omega);have K6:=K3.out.set (p:=⟨gd,q,none⟩) (by simp) (.int .i64 (du+1));have hz6:ga+1≤(wr.setCell ⟨gd,q,none⟩ (.int .i64 (du+1))).heap.size:=by simpa using hz3
         have hb6:=hb.setCell (p:=⟨gd,q,none⟩) (show w.heap.size≤gd from i4) (.int .i64 (du+1));have hown6:=uS hown (uA wr ⟨gd,q,none⟩ (.int .i64 (du+1))) (.inl (uF (g:=gd) (by omega) hown));have K6':=eh K6;clear y1t y2 y3 y0 y1 yd yq fq yk bD bK mK' hown K6 K3 hz3 hb bIr;generalize wr.setCell ⟨gd,q,none⟩ (.int .i64 (du+1))=w6 at*;have y3:=bT'.at3;have yk:=hdrs_cell bK' hh1 hh2;have fk:=bK'.frozen u;go_upto_region 22 with(fail);refine uE (S:=fun W=>W.cell? ⟨gt,3,none⟩=some (.slice (some ⟨gk,0,none⟩) g.length g.length)∧W.cell? ⟨gk,u,none⟩=some (.slice A2 la.length c2)) (fun j=> !(j==16)) (by kernel_rfl) ⟨y3,yk⟩ (fun HS=>?_);refine uB 0 102 rfl HS (.inl ⟨rfl,fun W hW=>by obtain⟨hW1,hW2⟩:=hW;go_simp;rfl⟩) ?_;simp only[pS];refine uB 1 103 rfl HS (.inl ⟨rfl,fun W hW=>by obtain⟨hW1,hW2⟩:=hW;go_simp;rfl⟩) ?_;simp only[pS];refine uB 2 104 rfl HS (.inl ⟨rfl,fun W hW=>by obtain⟨hW1,hW2⟩:=hW;go_simp;rfl⟩) ?_;simp only[pS];refine uB 3 105 rfl HS (.inl ⟨rfl,fun W hW=>by obtain⟨hW1,hW2⟩:=hW;go_simp;rfl⟩) ?_;simp only[pS];refine uB 4 106 rfl HS (.inl ⟨rfl,fun W hW=>by obtain⟨hW1,hW2⟩:=hW;go_simp;rfl⟩) ?_;simp only[pS];refine uB 5 107 rfl HS (.inl ⟨rfl,fun W hW=>by obtain⟨hW1,hW2⟩:=hW;go_simp;rfl⟩) ?_;simp only[pS];refine uB 6 108 rfl HS (.inl ⟨rfl,fun W hW=>by obtain⟨hW1,hW2⟩:=hW;go_simp;rfl⟩) ?_;simp only[pS];refine uB 7 109 rfl HS (.inl ⟨rfl,fun W hW=>by obtain⟨hW1,hW2⟩:=hW;go_simp;rfl⟩) ?_;simp only[pS];refine uB 8 110 rfl HS (.inl ⟨rfl,fun W hW=>by obtain⟨hW1,hW2⟩:=hW;go_simp;rfl⟩) ?_;simp only[pS];refine uB 9 111 rfl HS (.inl ⟨rfl,fun W hW=>by obtain⟨hW1,hW2⟩:=hW;go_simp;rfl⟩) ?_;simp only[pS];refine uB 10 112 rfl HS (.inl ⟨rfl,fun W hW=>by obtain⟨hW1,hW2⟩:=hW;go_simp;rfl⟩) ?_;simp only[pS];refine uB 11 113 rfl HS (.inl ⟨rfl,fun W hW=>by obtain⟨hW1,hW2⟩:=hW;go_simp;rfl⟩) ?_;simp only[pS];refine uB 12 114 rfl HS (.inl ⟨rfl,fun W hW=>by obtain⟨hW1,hW2⟩:=hW;go_simp;rfl⟩) ?_;simp only[pS];refine uN 13 rfl (fun K HK=>?_);go_simp;have bN:=Blk.new w6 3 #[.int .i64 (q:Int)];have y3':=(bT'.alloc (.cells #[.int .i64 (q:Int)] 3)).at3;have yk':=hdrs_cell (bK'.alloc (.cells #[.int .i64 (q:Int)] 3)) hh1 hh2;have hz7:ga+1≤(w6.alloc (.cells #[.int .i64 (q:Int)] 3)).heap.size:=by simp;omega
         refine HK.out _ _ (fun _=>⟨y3',yk'⟩) ?_;clear HK HS;try simp only[pS]
         refine uN 14 rfl (fun K HK=>?_);rw[if_pos (by rfl)];refine oper_append_row (.tmp 113) (.tmp 115) 38 rfl (ga+1) 3 _ 1 8 Tryz.underlying38 infoIntR rfl (by omega) A2 c2 la.length (ints la) rfl (hown6.alloc _) w6.heap.size 1 1 3 [.int .i64 (q:Int)] rfl bN rfl (by intro u hu;simp at hu;subst hu;rfl) (by have:=Hla.out;unfold maxLen;omega) (by have:=Hla.out;omega) hz7 ?_;intro A3 c3 w7 hown7 hg7d hat7;have hg7:(w6.alloc (.cells #[.int .i64 (q:Int)] 3)).grownBy w7 (Value.slice A2 la.length c2).ownBlock:=⟨hg7d.os,hg7d.tape,hg7d.output,hg7d.size,hg7d.block⟩;clear hg7d;have nK:(Value.slice A2 la.length c2).ownBlock≠some gk:=uF (g:=gk) (by omega) hown6;have nT:(Value.slice A2 la.length c2).ownBlock≠some gt:=uF (g:=gt) (by omega) hown6;have bT7:=(bT'.alloc (.cells #[.int .i64 (q:Int)] 3)).grown hg7 (Ne.symm nT);have bK7:=(bK'.alloc (.cells #[.int .i64 (q:Int)] 3)).grown hg7 (Ne.symm nK);have bD7:=(bD'.alloc (.cells #[.int .i64 (q:Int)] 3)).grown hg7 (Ne.symm (uF (g:=gd) (by omega) hown6));have K7:=(K6'.out.alloc (fun b h=>by omega) (.cells #[.int .i64 (q:Int)] 3)).grown hg7 (fun b h=>by omega) (fun b h e=>uF (g:=b) (by omega) hown6 e.symm);have hb7:=(hb6.alloc hb6.size (.cells #[.int .i64 (q:Int)] 3)).grown hg7 (Nat.le_trans mW (by omega)) (fun j hj=>by have:=(hown6.lt j hj).1;omega);have mK7:=((mK6.alloc (.cells #[.int .i64 (q:Int)] 3)).grown (l':=la++[(q:Int)]) hh1 (by omega) hown7 (by simp) (by simp[ints]) hg7 hat7).far (uA w7 ⟨gk,u,none⟩ (.slice A3 (la.length+1) c3)) (show gk<ga+1 by omega);have hz8:ga+1≤w7.heap.size:=Nat.le_trans hz7 hg7.size;have HS7:w7.cell? ⟨gt,3,none⟩=some (.slice (some ⟨gk,0,none⟩) g.length g.length)∧w7.cell? ⟨gk,u,none⟩=some (.slice A2 la.length c2):=⟨bT7.at3,hdrs_cell bK7 hh1 hh2⟩;refine HK.out _ _ (fun _=>HS7) ?_;clear HK;simp only[pS];have fk7:=bK7.frozen u;have yk7:=HS7.2;clear y3 yk fk y3' yk' bN hown6 mK6 bT' bK' bD' hown7 hg7 hat7;refine uB 15 117 rfl HS7 (.inl ⟨rfl,fun W hW=>by obtain⟨hW1,hW2⟩:=hW;go_simp;rfl⟩) ?_;simp only[pS];refine uN 16 rfl (fun K HK=>?_);clear HS7;go_simp;refine HK.out _ _ (fun h=>by cases h) ?_;clear HK;refine uD (by kernel_rfl) ?_ _;have bK8:=hdrs_blk_put bK7 u A3 c3 (l:=la++[(q:Int)]) (n:=la.length+1) (by simp);have hlen:∀j,((lsk.set u (la++[(q:Int)])).getD j []).length≤k+1:=fun j=>by
          by_cases e:j=u
          ·subst e;have :(lsk.set j (la++[(q:Int)])).getD j []=la++[(q:Int)]:=by simp[show j<lsk.length by omega]
           rw[this];have:=Hla.out;simp;omega
          ·have e':¬u=j:=fun h=>e h.symm
           have :(lsk.set u (la++[(q:Int)])).getD j []=lsk.getD j []:=by simp[e']
           rw[this];have:=HL.out j;omega
         have Hlen:=eh hlen;clear hlen yk7 fk7 hz7;go_wp2;go_roundw
         case rel=>exact⟨k+1,_,_,_,by omega,by go_num,HD2,bD7.far (p:=⟨gk,u,none⟩) j3 _,bK8,mK7,by simp;omega,Hlen,eh (K7.set (p:=⟨gk,u,none⟩) (by simp) _),by simp;omega,hb7.setCell (by show w.heap.size≤gk;omega) _⟩
         case measure=>simp[intOf];omega
        · --loop 4
         have e:k=l.length-1:=by omega
         have HD3:=eh (show DepK idl l g.length (l.length-1) dl by rw[←e];exact HD.out);have HT:=eh (tree_of hD.out HO.out.1 HO.out.2.1 HO.out.2.2 Hlt.out HD3.out);have hge:¬(k:Int)<((l.length-1:Nat):Int):=by omega
         have HL2:=eh (fun j=>(show(lsk.getD j []).length≤2000 by have:=HL.out j;omega));have bT:=bT3.kb K3.out ⟨by omega,j5,j6⟩;have bIr:=bI.kb K3.out ⟨by omega,j1,j2⟩;have y3:=bT.at3;clear e hlt HD HD3 HL hA' K3;generalize wr=w8 at*;go_wp2;go_loopw [124] (fun iv wr=>∃(j:Nat) (ls:List (List Int)),j≤g.length∧iv=.int .i64 j∧ls.length=g.length∧Hid (hdrs hsk ls=hdrs hsk lsk)∧Blk wr gk 38 ⟨hdrs hsk lsk⟩∧OwnMat wr (ga+1) 3 hsk ls∧Hid (∀i,(ls.getD i []).length≤2000)∧Hid (KB (fun b=>b≤ga) w8 wr)∧ga+1≤wr.heap.size∧Below w.heap.size w wr) (fun iv _=>g.length-(intOf iv).toNat)
         case atStart=>exact⟨0,lsk,Nat.zero_le _,rfl,hlk,eh rfl,bK,mK',HL2,eh (KB.refl _ _),hz3,hb⟩
         case round=>
          clear bK mK' HL2 hz3 hb hlk y3;obtain⟨j,ls,hj,rfl,hls,Hh,bK,mK,HL,K4,hz3,hb⟩:=hrel
          by_cases hlt:j<g.length
          ·have k0:(0:Int)≤j:=by omega
           have k1:(j:Int)<g.length:=by omega
           obtain⟨A2,c2,hh1,hh2,hown⟩:=mK.get (k:=j) (by omega);have bK':=bK;rw[←Hh.out]at bK';have yk:=hdrs_cell bK' hh1 hh2;have hla:=HL.out j;have Hown:=eh hown;have HS:=eh (fun(W:World) (hW:W.ownsRow (ga+1) 3 1 (.slice A2 (ls.getD j []).length c2) (ls.getD j []).length (ints (ls.getD j [])))=>sort_own hW (by omega));clear bK';generalize hgla:ls.getD j []=la at*;have Hgla:=eh hgla;clear hgla hown;go_wp2_with fail;refine(HS.out _ Hown.out).mono ?_;rintro e w9 ⟨rfl,⟨l',hl',own'⟩,hg⟩;have hl2:l'.length=(ls.getD j []).length:=by rw[Hgla.out];exact hl'
           have hset:=eh (hdrs_turn hh1 (show j<ls.length by omega) hl2);have own2:w9.ownsRow (ga+1) 3 1 (.slice A2 l'.length c2) l'.length (ints l'):=by rw[hl'];exact own'
           have hg2:wr.grownBy w9 (Value.slice A2 (ls.getD j []).length c2).ownBlock:=by rw[Hgla.out];exact⟨hg.os,hg.tape,hg.output,hg.size,hg.block⟩
           have mK9:=mK.turn hh1 (show j<ls.length by omega) hl2 own2 hg2;have bK9:=bK.grown hg2 (Ne.symm (uF (g:=gk) (by omega) (Hgla.out.symm▸Hown.out)));have K9:=K4.out.grown hg2 (fun b h=>by omega) (fun b h e=>uF (g:=b) (by omega) (Hgla.out.symm▸Hown.out) e.symm);have hb9:=hb.grown hg2 hb.size (fun i hi=>by have:=((Hgla.out.symm▸Hown.out:wr.ownsRow (ga+1) 3 1 (.slice A2 (ls.getD j []).length c2) (ls.getD j []).length (ints (ls.getD j []))).lt i hi).1;omega);have hlen:∀i,((ls.set j l').getD i []).length≤2000:=fun i=>by
            by_cases e:i=j
            ·subst e;have :(ls.set i l').getD i []=l':=by simp[show i<ls.length by omega]
             rw[this,hl'];exact hla
            ·have e':¬j=i:=fun h=>e h.symm
             have :(ls.set j l').getD i []=ls.getD i []:=by simp[e']
             rw[this];exact HL.out i
           have Hlen:=eh hlen;have hz9:ga+1≤w9.heap.size:=Nat.le_trans hz3 hg2.size;have Hhh:=eh (hset.out.trans Hh.out);clear hlen hl2 hl' own2 own' hg hg2;go_wp2;go_roundw
           case rel=>exact⟨j+1,_,by omega,by go_num,by simp;omega,Hhh,bK9,mK9,Hlen,eh K9,hz9,hb9⟩
           case measure=>simp[intOf];omega
          ·have hge2:¬(j:Int)<g.length:=by omega
           have bT9:=bT.kb K4.out (by omega);have bI9:=bIr.kb K4.out (by omega);have bD9:=bD.kb K4.out (by omega);clear hlt;go_wp2;exact HP.out _ _ _ _ _ _ ⟨bT9.at1,bT9.at2,bI9,bD9⟩ HT.out i1 i3 i4 hb
end Go.Proofs.YtgbgbmdiomhfiaaGreatDoor