/-
 Ss4, Ss5, Ss7, Ss7b.
-/
import Derived.Test.YtgbgbmdiomhfiaaGreatDoorJSs3
import Derived.Test.YtgbgbmdiomhfiaaGreatDoorJDom4
set_option linter.unusedSimpArgs false
set_option linter.unusedVariables false
set_option maxHeartbeats 8000000
set_option maxRecDepth 100000
namespace Go.Proofs.YtgbgbmdiomhfiaaGreatDoor
open Go.RowKit Go.Maps
theorem clone_int(A:Option Addr)(n c:Nat)(xs:List Value)(w:World)(h:Rd w w.heap.size 1 A n xs)(h0:A=none→n=0)(hn:n≤1000000)(h1:∀u∈xs,u.oneCell'=true):
 Calls Tryz.prog 82 #[.slice A n c] w (ClonePost w 3 1 n xs):=by
 have q:∀(w:World) (a:Option Addr) (n c n' c':Nat),(binOp .eql 38 (.slice a n c) (.slice none n' c')).run Tryz.prog w=.ok (.bool a.isNone) w:=fun w a n c n' c'=>Lib.run_eql_slice_nil w _ _ a n c n' c' Tryz.underlying38
 cases A with
 |none=>
  obtain rfl:=h0 rfl;have hx:xs=[]:=List.eq_nil_of_length_eq_zero (by simpa using h.1);go_enter Tryz.func82,Tryz.ntmps82;go_wp2;go_ret;subst hx;exact⟨none,0,rfl,World.ownsRow_nil _ _ _ _,Below.refl _ _⟩
 |some a=>
  obtain⟨i0,hi,hz0,hz1,hz2⟩:=info_parts infoIntR;have hsp:0<n→a.spot=none:=fun hn0=>by
   obtain⟨b,off,e,_⟩:=h.2 hn0;cases e;rfl
  have hc:∀j u,xs[j]? =some u→w.cell? (a.add j)=some u:=fun j u hu=>by
   by_cases hn0:0<n
   ·obtain⟨b,off,e,_,hcc⟩:=h.2 hn0;cases e;have:=hcc j u hu
    rwa [show(⟨b,off,none⟩:Addr).add j=⟨b,off+j,none⟩from Go.WideShapes.add_plain b off j]
   ·have :xs.length=0:=by have:=h.1;omega
    have:=(List.getElem?_eq_some_iff.1 hu).1;omega
  have Hc:=eh hc;have Hl:=eh h.1;have H1:=eh h1;clear hc h h1 hsp h0;go_enter Tryz.func82,Tryz.ntmps82;go_wp2_with (at_builtin
                                                                                                                    refine wpList_append_own_at _ rfl _ _ 38 rfl w.heap.size 3 i0 _ 1 8 Tryz.underlying38 hi hz0 hz1 hz2 rfl (by decide) _ 0 [] rfl (World.ownsRow_made w #[] 0 (Nat.le_refl _) (Nat.zero_le _) rfl) a n c xs rfl Hl.out (fun j u hu=>by first|exact Hc.out j u hu|(rw[World.cell?_alloc_lt];exact Hc.out j u hu;exact World.block_lt_of_cell? w _ (Hc.out j u hu))) H1.out (by unfold maxLen;omega) (by omega) (by simp) ?_;intro v' w1 hown hg _ _;simp only[Nat.zero_add,List.nil_append]at hown;obtain⟨A',c',rfl⟩:=own_slice hown)
  go_ret;exact⟨A',c',rfl,hown,((Below.refl w.heap.size w).alloc (Nat.le_refl _) _).grown hg (by simp) (fun k hk=>by
   have e:some w.heap.size=some k:=hk;cases e;exact Nat.le_refl _)⟩
theorem OwnMat.put{w w':World}{base:Nat}{e:TypeId}{hs:List (Option Addr×Nat)}{ls:List (List Int)}(M:OwnMat w base e hs ls)(hb:Below w.heap.size w w'){k:Nat}{A:Option Addr}{c:Nat}{l':List Int}(hk:k<ls.length)
 (hown:w'.ownsRow w.heap.size e 1 (.slice A l'.length c) l'.length (ints l'))(hbase:base≤w.heap.size):OwnMat w' base e (hs.set k (A,c)) (ls.set k l'):=by
 have hkh:k<hs.length:=by rw[M.len];exact hk
 have hA:∀g,A.map (·.block)=some g→w.heap.size≤g:=fun g hg=>(hown.lt g (by rw[←hg];cases A<;>rfl)).1
 refine⟨by simp[M.len],fun i h y h1 h2=>?_,fun i j h h' g h1 h2 h3 h4=>?_⟩
 ·by_cases e1:k=i
  ·subst e1;rw[List.getElem?_set_self hkh]at h1;rw[List.getElem?_set_self hk]at h2;cases h1;cases h2;exact own_base hown hbase
  ·rw[List.getElem?_set_ne e1]at h1 h2;exact own_below (M.own i h y h1 h2) hb (Nat.le_refl _)
 ·by_cases ei:k=i
  ·by_cases ej:k=j
   ·omega
   ·subst ei;rw[List.getElem?_set_self hkh]at h1;rw[List.getElem?_set_ne ej]at h2;cases h1;have:=hA g h3;have:=(M.block h2 h4).2;omega
  ·by_cases ej:k=j
   ·subst ej;rw[List.getElem?_set_self hkh]at h2;rw[List.getElem?_set_ne ei]at h1;cases h2;have:=hA g h4;have:=(M.block h1 h3).2;omega
   ·rw[List.getElem?_set_ne ei]at h1;rw[List.getElem?_set_ne ej]at h2;exact M.apart i j h h' g h1 h2 h3 h4
theorem gr_at{f:Fn}{k:Nat}(hk:k<f.blocks.length):(grF f)[k]? =some (f.blocks.getD k default).succ:=by simp[grF,hk]
theorem graph_any{S:Nat→Prop}(An Ab As:Option Addr)(cn cb cs:Nat)(f:Fn)(w:World)(hbl:RdL bkShape w S Ab f.blocks)(hS:∀b,S b→b<w.heap.size)(hB:f.blocks.length≤500)(hrow:∀b,b<f.blocks.length→(bkAt f b).succ.length≤1000000):
 Calls Tryz.prog 48 #[fv An Ab As cn cb cs f] w (MatPost w (grF f)):=by
 have hPP:∀hs w',Blk w' (w.heap.size+1) 38 ⟨hdrs hs (grF f)⟩→OwnMat w' (w.heap.size+2) 3 hs (grF f)→Below w.heap.size w w'→MatPost w (grF f) (.returned (.slice (some ⟨w.heap.size+1,0,none⟩) f.blocks.length f.blocks.length)) w':=fun hs w' h1 h2 h3=>⟨_,hs,by simp[grF],h1,h2,by omega,h3⟩
 have HP:=eh hPP;clear hPP;generalize MatPost w (grF f)=Post at*;have hm1:=fun W=>run_make_row' (P:=Tryz.prog) 144 38 (.slice none 0 0) 24 Tryz.underlying144 infoSl rfl .i64 .i64 f.blocks.length (by omega) (by omega) W
 rw[made_hdrs]at hm1;have bF:=Blk.new w 50 #[.int .i64 f.mth,.int .i64 f.entry,.slice An f.nodes.length cn,.slice Ab f.blocks.length cb,.slice As f.states.length cs];have hb1:=(Below.refl w.heap.size w).alloc (Nat.le_refl _) (.cells #[.int .i64 f.mth,.int .i64 f.entry,.slice An f.nodes.length cn,.slice Ab f.blocks.length cb,.slice As f.states.length cs] 50);have bF2:=bF.alloc (.cells ⟨hdrs (List.replicate f.blocks.length (none,0)) (List.replicate f.blocks.length [])⟩ 38);have hb2:=hb1.alloc hb1.size (.cells ⟨hdrs (List.replicate f.blocks.length (none,0)) (List.replicate f.blocks.length [])⟩ 38);have bG:=Blk.newAt (w:=w.alloc (.cells #[.int .i64 f.mth,.int .i64 f.entry,.slice An f.nodes.length cn,.slice Ab f.blocks.length cb,.slice As f.states.length cs] 50)) (g:=w.heap.size+1) (by simp) 38 ⟨hdrs (List.replicate f.blocks.length (none,0)) (List.replicate f.blocks.length [])⟩;have y3:World.cell? _ ⟨w.heap.size,3,none⟩=some (.slice Ab f.blocks.length cb):=bF.cell 3;have y3':World.cell? _ ⟨w.heap.size,3,none⟩=some (.slice Ab f.blocks.length cb):=bF2.cell 3;clear bF hb1 bF2;have Hbl:=eh hbl;have HS:=eh hS;clear hbl hS;go_enter Tryz.func48,Tryz.ntmps48;go_wp2;go_loopw [13] (fun iv wr=>∃(k:Nat) (hs:List (Option Addr×Nat)) (ls:List (List Int)),k≤f.blocks.length∧iv=.int .i64 k∧ls.length=f.blocks.length∧Hid (∀j,j<k→ls[j]? =(grF f)[j]?)∧Blk wr (w.heap.size+1) 38 ⟨hdrs hs ls⟩∧OwnMat wr (w.heap.size+2) 3 hs ls∧w.heap.size+2≤wr.heap.size∧Below w.heap.size w wr) (fun iv _=>f.blocks.length-(intOf iv).toNat)
 case atStart=>exact⟨0,_,_,Nat.zero_le _,rfl,by simp,eh (fun j h=>by omega),bG,OwnMat.made _ _ _ _,by simp,hb2⟩
 case round=>
  clear bG hb2 y3 y3';obtain⟨k,hs,ls,hk,rfl,hls,HL,bG,M,hz,hb⟩:=hrel
  by_cases hlt:k<f.blocks.length
  ·have k0:(0:Int)≤k:=by omega
   have k1:(k:Int)<f.blocks.length:=by omega
   obtain⟨bb,off,A1,c1,A2,c2,A3,c3,A4,c4,hAb,hSb,x0,x1,x2,x3,r1,r2,r3,r4⟩:=rd_bk (Hbl.out.below hb HS.out) hlt;subst hAb;have hra:(f.blocks.getD k default).succ.length≤1000000:=hrow k hlt;have Hgr:=eh (gr_at hlt);generalize f.blocks.getD k default=xb at*;have hbbz:=HS.out bb hSb;obtain⟨A5,c5,hh1,hh2,-⟩:=M.get (k:=k) (by omega);have lbw:bb<wr.heap.size:=by omega
   have bX:=Blk.new wr 43 #[.slice A1 xb.phis.length c1,.slice A2 xb.body.length c2,.slice A3 xb.succ.length c3,.slice A4 xb.preds.length c4];have hbW:Below wr.heap.size wr (wr.alloc (.cells #[.slice A1 xb.phis.length c1,.slice A2 xb.body.length c2,.slice A3 xb.succ.length c3,.slice A4 xb.preds.length c4] 43)):=(Below.refl _ _).alloc (Nat.le_refl _) _;have hrc:=(r3.keep (Kept.of_below hbW (fun b hb=>by have:=HS.out b hb;omega))).rd (B:=(wr.alloc (.cells #[.slice A1 xb.phis.length c1,.slice A2 xb.body.length c2,.slice A3 xb.succ.length c3,.slice A4 xb.preds.length c4] 43)).heap.size) (fun b hb=>by have:=HS.out b hb;simp;omega);have Hcl:=eh (clone_int A3 xb.succ.length c3 (ints xb.succ) _ hrc (rd_none hrc) hra (fun u hu=>ints_one hu));have y2:=bX.at2;clear r1 r2 r3 r4 hrc;go_wp2_with fail;refine Hcl.out.mono ?_;rintro e w7 ⟨A9,c9,rfl,own9,hb79⟩;have hb7:=hbW.trans (hb79.mono hbW.size);have bG7:=bG.below hb7 (by omega);have M7:=M.put hb7 (k:=k) (l':=xb.succ) (by omega) (own_base own9 (by simp)) hz;have hbb7:=hb.trans (hb7.mono hb.size);have hz7:=hb7.size;have yk:=hdrs_cell bG7 hh1 hh2;have fk:=bG7.frozen k;have lk:=bG7.lt;clear own9 hb79 hb7 hbW bX bG M hb x0 x1 x2 x3 y2 Hcl;go_wp2;go_roundw
   case rel=>
    refine⟨k+1,_,_,by omega,by go_num,by simp;omega,eh (fun j hj=>?_),hdrs_blk_put bG7 k A9 c9 (l:=xb.succ) rfl,M7.far (uA w7 ⟨w.heap.size+1,k,none⟩ (.slice A9 xb.succ.length c9)) (by show w.heap.size+1<w.heap.size+2;omega),by simp;omega,hbb7.setCell (by show w.heap.size≤w.heap.size+1;omega) _⟩
    by_cases e:k=j
    ·subst e;rw[List.getElem?_set_self (by omega),Hgr.out]
    ·rw[List.getElem?_set_ne e];exact HL.out j (by omega)
   case measure=>simp[intOf];omega
  ·have e:k=f.blocks.length:=by omega
   have hge:¬(k:Int)<f.blocks.length:=by omega
   have hlg:ls=grF f:=by
    apply List.ext_getElem?;intro j
    by_cases hj:j<k
    ·exact HL.out j hj
    ·rw[List.getElem?_eq_none (by omega),List.getElem?_eq_none (by simp[grF];omega)]
   subst hlg;clear hlt e;go_wp2;exact HP.out _ _ bG M hb
noncomputable def abvB(E:Nat→Nat→Prop)(nB:Nat)(blk plc:List Int)(a n:Nat):Bool:=dec (if blk.getD a 0=blk.getD n 0 then plc.getD a 0<plc.getD n 0 else aboveP E nB (blk.getD a 0) (blk.getD n 0))
theorem chkAbove_any{E:Nat→Nat→Prop}{nB:Nat}{idm dep:List Int}(T:TreeOk E nB idm dep)(hn:nB≤100000){w:World}{gc gb gp gt gi gd N:Nat}{blk plc:List Int}(H:TreeAt w gt gi gd nB idm dep)
 (c8:w.cell? ⟨gc,8,none⟩=some (.slice (some ⟨gb,0,none⟩) N N))(c9:w.cell? ⟨gc,9,none⟩=some (.slice (some ⟨gp,0,none⟩) N N))(c10:w.cell? ⟨gc,10,none⟩=some (.pointer (some ⟨gt,0,none⟩)))
 (b1:Blk w gb 3 ⟨ints blk⟩)(b2:Blk w gp 3 ⟨ints plc⟩)(hl1:blk.length=N)(hl2:plc.length=N)(a n:Nat)(ha:a<N)(hnN:n<N):
 Calls Tryz.prog 51 #[.pointer (some ⟨gc,0,none⟩),.int .i64 a,.int .i64 n] w (AboveP w (abvB E nB blk plc a n)):=by
 have hPP:∀r q,abvB E nB blk plc a n=r→AboveP w (abvB E nB blk plc a n) (.returned (.bool r)) (w.drewN q):=fun r q e=>⟨q,by rw[e],rfl⟩
 have HP:=eh hPP;clear hPP;generalize AboveP w (abvB E nB blk plc a n)=Post at*;have x1:=uH b1 (show a<blk.length by omega);have x2:=uH b1 (show n<blk.length by omega);have z1:=uH b2 (show a<plc.length by omega);have z2:=uH b2 (show n<plc.length by omega);have hF:abvB E nB blk plc a n=dec (if blk.getD a 0=blk.getD n 0 then plc.getD a 0<plc.getD n 0 else aboveP E nB (blk.getD a 0) (blk.getD n 0)):=rfl;have Hab:=eh (fun q=>above_any T hn (w:=(w.drewN q).drew) (gt:=gt) (gi:=gi) (gd:=gd) ⟨H.t1,H.t2,H.bi,H.bd⟩ (blk.getD a 0) (blk.getD n 0));generalize blk.getD a 0=ba at*;generalize blk.getD n 0=bn at*;generalize plc.getD a 0=pa at*;generalize plc.getD n 0=pn at*;have a0:(0:Int)≤a:=by omega
 have a1:(a:Int)<N:=by omega
 have n0:(0:Int)≤n:=by omega
 have n1:(n:Int)<N:=by omega
 clear H T b1 b2 hl1 hl2
 by_cases he:ba=bn
 ·rw[if_pos he]at hF;have g1:(ba==bn)=true:=by simpa using he
  by_cases hp:pa<pn
  ·have HB:=eh (hF.trans (dec_t hp));have g2:decide (pa<pn)=true:=by simpa using hp
   subst he;clear hF hp g1;have g1:(ba==ba)=true:=by simp
   go_enter Tryz.func51,Tryz.ntmps51;go_wp2;go_quiet (fail);rename Nat=>q1
   go_wp2;go_quiet (fail);rename Nat=>q2
   go_wp2
   first|exact HP.out _ _ HB.out|(rw[World.drewN_drewN];exact HP.out _ _ HB.out)
  ·have HB:=eh (hF.trans (dec_f hp));have g2:decide (pa<pn)=false:=by simpa using hp
   subst he;clear hF hp g1;go_enter Tryz.func51,Tryz.ntmps51;go_wp2;go_quiet (fail);rename Nat=>q1
   go_wp2;go_quiet (fail);rename Nat=>q2
   go_wp2
   first|exact HP.out _ _ HB.out|(rw[World.drewN_drewN];exact HP.out _ _ HB.out)
 ·rw[if_neg he]at hF;have g1:(ba==bn)=false:=by simpa using he
  have HB:=eh (show abvB E nB blk plc a n=aboveB E nB ba bn from hF);clear hF he;generalize aboveB E nB ba bn=ab at*;go_enter Tryz.func51,Tryz.ntmps51;go_wp2;go_quiet (fail);rename Nat=>q1
  go_wp2;refine uE (S:=fun W=>W.cell? ⟨gc,8,none⟩=some (.slice (some ⟨gb,0,none⟩) N N)∧W.cell? ⟨gc,10,none⟩=some (.pointer (some ⟨gt,0,none⟩))∧W.cell? ⟨gb,a,none⟩=some (.int .i64 ba)∧W.cell? ⟨gb,n,none⟩=some (.int .i64 bn)) (fun _=>true) (by kernel_rfl) ⟨c8,c10,x1,x2⟩ (fun HS=>?_);refine uB 0 37 rfl HS (.inl ⟨rfl,fun W hW=>by obtain⟨h8,h10,h1,h2⟩:=hW;go_simp;rfl⟩) ?_;simp only[pS];refine uB 1 38 rfl HS (.inl ⟨rfl,fun W hW=>by obtain⟨h8,h10,h1,h2⟩:=hW;go_simp;rfl⟩) ?_;simp only[pS];refine uB 2 39 rfl HS (.inl ⟨rfl,fun W hW=>by obtain⟨h8,h10,h1,h2⟩:=hW;go_simp;rfl⟩) ?_;simp only[pS];refine uB 3 40 rfl HS (.inl ⟨rfl,fun W hW=>by obtain⟨h8,h10,h1,h2⟩:=hW;go_simp;rfl⟩) ?_;simp only[pS];refine uB 4 41 rfl HS (.inl ⟨rfl,fun W hW=>by obtain⟨h8,h10,h1,h2⟩:=hW;go_simp;rfl⟩) ?_;simp only[pS];refine uB 5 42 rfl HS (.inl ⟨rfl,fun W hW=>by obtain⟨h8,h10,h1,h2⟩:=hW;go_simp;rfl⟩) ?_;simp only[pS];refine uB 6 43 rfl HS (.inl ⟨rfl,fun W hW=>by obtain⟨h8,h10,h1,h2⟩:=hW;go_simp;rfl⟩) ?_;simp only[pS];refine uB 7 44 rfl HS (.inl ⟨rfl,fun W hW=>by obtain⟨h8,h10,h1,h2⟩:=hW;go_simp;rfl⟩) ?_;simp only[pS];refine uB 8 45 rfl HS (.inl ⟨rfl,fun W hW=>by obtain⟨h8,h10,h1,h2⟩:=hW;go_simp;rfl⟩) ?_;simp only[pS];refine uB 9 46 rfl HS (.inl ⟨rfl,fun W hW=>by obtain⟨h8,h10,h1,h2⟩:=hW;go_simp;rfl⟩) ?_;simp only[pS];refine uB 10 47 rfl HS (.inl ⟨rfl,fun W hW=>by obtain⟨h8,h10,h1,h2⟩:=hW;go_simp;rfl⟩) ?_;simp only[pS];refine uB 11 48 rfl HS (.inl ⟨rfl,fun W hW=>by obtain⟨h8,h10,h1,h2⟩:=hW;go_simp;rfl⟩) ?_;simp only[pS];refine uB 12 49 rfl HS (.inl ⟨rfl,fun W hW=>by obtain⟨h8,h10,h1,h2⟩:=hW;go_simp;rfl⟩) ?_;simp only[pS];refine uB 13 50 rfl HS (.inl ⟨rfl,fun W hW=>by obtain⟨h8,h10,h1,h2⟩:=hW;go_simp;rfl⟩) ?_;simp only[pS];refine uB 14 51 rfl HS (.inl ⟨rfl,fun W hW=>by obtain⟨h8,h10,h1,h2⟩:=hW;go_simp;rfl⟩) ?_;simp only[pS];refine uB 15 52 rfl HS (.inl ⟨rfl,fun W hW=>by obtain⟨h8,h10,h1,h2⟩:=hW;go_simp;rfl⟩) ?_;simp only[pS];refine uB 16 53 rfl HS (.inl ⟨rfl,fun W hW=>by obtain⟨h8,h10,h1,h2⟩:=hW;go_simp;rfl⟩) ?_;simp only[pS];refine uB 17 54 rfl HS (.inl ⟨rfl,fun W hW=>by obtain⟨h8,h10,h1,h2⟩:=hW;go_simp;rfl⟩) ?_;simp only[pS];refine uN 18 rfl (fun K HK=>?_);go_simp;refine(Hab.out _).mono ?_;rintro e w9 ⟨qq,rfl,rfl⟩;have HS9:(((w.drewN q1).drew).drewN qq).cell? ⟨gc,8,none⟩=some (.slice (some ⟨gb,0,none⟩) N N)∧(((w.drewN q1).drew).drewN qq).cell? ⟨gc,10,none⟩=some (.pointer (some ⟨gt,0,none⟩))∧(((w.drewN q1).drew).drewN qq).cell? ⟨gb,a,none⟩=some (.int .i64 ba)∧(((w.drewN q1).drew).drewN qq).cell? ⟨gb,n,none⟩=some (.int .i64 bn):=⟨c8,c10,x1,x2⟩;refine HK.out _ _ (fun _=>HS9) ?_;clear HK;try simp only[pS]
  refine uB 19 6 rfl HS9 (.inl ⟨rfl,fun W hW=>by go_simp;rfl⟩) ?_;simp only[pS];refine uD (by kernel_rfl) ?_ _;have hw:((w.drewN q1).drew).drewN qq=w.drewN (q1+1+qq):=by simp[World.drewN,World.drew,Nat.add_assoc]
  rw[hw];go_wp2;exact HP.out _ _ HB.out
theorem equal_any{B B':Nat}(A1 A2:Option Addr)(c1 c2:Nat)(l1 l2:List Int)(w:World)(h1:Rd w B 1 A1 l1.length (ints l1))(h2:Rd w B' 1 A2 l2.length (ints l2))(hn:l1.length≤1000000000):
 Calls Tryz.prog 46 #[.slice A1 l1.length c1,.slice A2 l2.length c2] w fun e w'=>e=.returned (.bool (decide (l1=l2)))∧∃q,w'=w.drewN q:=by
 by_cases hl:l1.length=l2.length
 ·by_cases h0:l1.length=0
  ·have e1:=List.eq_nil_of_length_eq_zero h0;have e2:=List.eq_nil_of_length_eq_zero (l:=l2) (by omega);subst e1 e2;exact(Any.slices_Equal_int_empty lays111 A1 A2 c1 0 c2 w (by omega)).mono fun e w' ⟨h1,h2⟩=>⟨h1,0,h2⟩
  ·obtain⟨b1,o1,rfl,_,y1⟩:=h1.2 (by omega);obtain⟨b2,o2,rfl,_,y2⟩:=h2.2 (by omega);refine(Any.slices_Equal_int lays111 b1 o1 l1.length c1 b2 o2 l2.length c2 l1 l2 w (Nat.le_refl _) (Nat.le_refl _) (by omega) (by omega) (fun j hj=>y1 j _ (by simp[ints,hj])) (fun j hj=>y2 j _ (by simp[ints,hj]))).mono fun e w' ⟨h1,h2⟩=>⟨?_,h2⟩
   rw[h1,List.take_length,List.take_length];congr 2;rw[Bool.eq_iff_iff];simp
 ·refine(Any.slices_Equal_int_lens lays111 A1 A2 l1.length c1 l2.length c2 w hl).mono fun e w' ⟨h1,h2⟩=>⟨?_,0,h2⟩
  rw[h1,decide_eq_false (fun e=>hl (by rw[e]))]
theorem equal_eq{B B':Nat}{A1 A2:Option Addr}{c1 c2:Nat}{l1 l2:List Int}{b:Bool}(hb:decide (l1=l2)=b)(w:World)(h1:Rd w B 1 A1 l1.length (ints l1))(h2:Rd w B' 1 A2 l2.length (ints l2))(hn:l1.length≤1000000000):
 Calls Tryz.prog 46 #[.slice A1 l1.length c1,.slice A2 l2.length c2] w fun e w'=>e=.returned (.bool b)∧∃q,w'=w.drewN q:=by subst hb;exact equal_any A1 A2 c1 c2 l1 l2 w h1 h2 hn
theorem ChkAt.kb{w w':World}{S:Nat→Prop}{gc gv:Nat}{p:Prg}{vs:List Vs}{f:Fn}{Ac Am An Ab As:Option Addr}{cc cm cn cb cs:Nat}{bv qv tv lv dv:Value}(h:ChkAt w S gc gv p vs f Ac cc Am cm An cn Ab cb As cs bv qv tv lv dv)(hk:KB (fun b=>S b∨b=gv∨b=gc) w w')(hz:w.heap.size≤w'.heap.size):ChkAt w' S gc gv p vs f Ac cc Am cm An cn Ab cb As cs bv qv tv lv dv:=by
 have hk':Kept S w w':=(hk.sub (fun b hb=>.inl hb)).kept;exact⟨h.blk.kb hk (.inr (.inr rfl)),h.prg.keep hk',h.fn.keep hk',h.inf.kb (hk.sub (fun b hb=>hb.elim .inl (fun h=>.inr (.inl h)))) hz,fun b hs=>⟨Nat.lt_of_lt_of_le (h.lt b hs).1 hz,(h.lt b hs).2⟩,⟨Nat.lt_of_lt_of_le h.gv.1 hz,h.gv.2⟩,h.cap⟩
theorem ChkAt.tree{w:World}{S:Nat→Prop}{gc gv:Nat}{p:Prg}{vs:List Vs}{f:Fn}{Ac Am An Ab As:Option Addr}{cc cm cn cb cs:Nat}{bv qv tv lv dv:Value}(h:ChkAt w S gc gv p vs f Ac cc Am cm An cn Ab cb As cs bv qv tv lv dv)(v:Value):ChkAt (w.setCell ⟨gc,10,none⟩ v) S gc gv p vs f Ac cc Am cm An cn Ab cb As cs bv qv v lv dv:=by
 have hk:KB (fun b=>S b∨b=gv) w (w.setCell ⟨gc,10,none⟩ v):=(KB.refl _ w).set (by
  show¬(S gc∨gc=gv)
  rintro(hs|e)
  ·exact(h.lt gc hs).2.1 rfl
  ·exact h.gv.2 e.symm) v
 have hk':Kept S w (w.setCell ⟨gc,10,none⟩ v):=(hk.sub (fun b hb=>.inl hb)).kept;have b:=h.blk.set_ 10 v;simp only[List.setIfInBounds_toArray,List.set_cons_zero,List.set_cons_succ]at b;exact⟨b,h.prg.keep hk',h.fn.keep hk',h.inf.kb hk (by simp),fun b hs=>⟨by simpa using(h.lt b hs).1,(h.lt b hs).2⟩,⟨by simpa using h.gv.1,h.gv.2⟩,h.cap⟩
theorem TreeAt.kb{w w':World}{gt gi gd n:Nat}{idm dep:List Int}{S:Nat→Prop}(h:TreeAt w gt gi gd n idm dep)(hk:KB S w w')(h1:S gt)(h2:S gi)(h3:S gd):TreeAt w' gt gi gd n idm dep:=
 ⟨(World.cell?_of_block (hk gt h1)).trans h.t1,(World.cell?_of_block (hk gt h1)).trans h.t2,h.bi.kb hk h2,h.bd.kb hk h3⟩
theorem TreeAt.drewN{w:World}{gt gi gd n:Nat}{idm dep:List Int}(h:TreeAt w gt gi gd n idm dep)(q:Nat):TreeAt (w.drewN q) gt gi gd n idm dep:=⟨h.t1,h.t2,h.bi,h.bd⟩
theorem dm0{E:Nat→Nat→Prop}{k:Nat}(h:Reach E k):Dm E 0 k:=by
 refine⟨h,fun a=>?_⟩;clear h;induction a with
 |zero h=>exact h rfl
 |step _ _ _ ih=>exact ih
theorem above_zero{E:Nat→Nat→Prop}{n k:Nat}(hk:k<n):aboveB E n 0 k=true↔Reach E k:=by
 constructor
 ·intro h;have:=(dec_p h).2.1.2.2;simpa using this
 ·intro h;exact dec_t ⟨⟨by omega,by omega,.zero⟩,⟨by omega,by omega,by simpa using h⟩,by simpa using dm0 h⟩
theorem own_rd{w:World}{base:Nat}{e:TypeId}{size n c:Nat}{A:Option Addr}{xs:List Value}(h:w.ownsRow base e size (.slice A n c) n xs):Rd w w.heap.size size A n xs:=by
 obtain⟨A',c',hv,hr⟩:=Rd.of_own h;cases hv;exact hr
structure BlocksR(w w':World)(S:Nat→Prop)(gc gv:Nat)(p:Prg)(vs:List Vs)(f:Fn)(lv dv:Value)(gb gp gt gi gd:Nat)(blk plc idm dep:List Int):Prop where
 chk:Chk w' S gc gv p vs f (.slice (some ⟨gb,0,none⟩) f.nodes.length f.nodes.length) (.slice (some ⟨gp,0,none⟩) f.nodes.length f.nodes.length) (.pointer (some ⟨gt,0,none⟩)) lv dv
 bb:Blk w' gb 3 ⟨ints blk⟩
 bp:Blk w' gp 3 ⟨ints plc⟩
 tree:TreeAt w' gt gi gd f.blocks.length idm dep
 ok:TreeOk (EI (grF f)) f.blocks.length idm dep
 new:w.heap.size≤gb∧w.heap.size≤gp∧w.heap.size≤gt∧w.heap.size≤gi∧w.heap.size≤gd
def BlocksPost(w:World)(S:Nat→Prop)(gc gv:Nat)(p:Prg)(vs:List Vs)(f:Fn)(lv dv:Value)(e:Ending)(w':World):Prop:=
 w.grownBy w' (some gc)∧((e=.returned (.bool false)∧¬(standOk f∧BlocksOk f))∨(e=.returned (.bool true)∧BlocksOk f∧∃gb gp gt gi gd blk plc idm dep,Stands f blk plc∧BlocksR w w' S gc gv p vs f lv dv gb gp gt gi gd blk plc idm dep))
def pdsL(f:Fn)(B i:Nat):List (List Int):=(List.range f.blocks.length).map (pdsAt f B i)
section
variable {f:Fn} {B i s:Nat}
theorem pdsL_len:(pdsL f B i).length=f.blocks.length:=by simp[pdsL]
theorem pdsL_get(hs:s<f.blocks.length):(pdsL f B i)[s]? =some (pdsAt f B i s):=by simp[pdsL,hs]
theorem pdsL_zero:pdsL f 0 0=List.replicate f.blocks.length []:=by
 apply List.ext_getElem?;intro k
 by_cases hk:k<f.blocks.length
 ·rw[pdsL_get hk,pdsAt_zero,pdsTo_zero];simp[hk]
 ·rw[List.getElem?_eq_none (by rw[pdsL_len];omega),List.getElem?_eq_none (by simp;omega)]
theorem pdsL_row(hi:(bkAt f B).succ.length≤i):pdsL f B i=pdsL f (B+1) 0:=by
 unfold pdsL;refine List.map_congr_left fun s _=>?_
 rw[pdsAt_zero,pdsTo_next];unfold pdsAt;rw[List.take_of_length_le hi,List.take_length]
theorem pdsL_step{k:Int}(hk:(bkAt f B).succ[i]? =some k)(h0:0≤k)(h1:k<f.blocks.length)(hn:k∉(bkAt f B).succ.take i):pdsL f B (i+1)=(pdsL f B i).set k.toNat (pdsAt f B i k.toNat++[(B:Int)]):=by
 apply List.ext_getElem?;intro j
 by_cases hj:j<f.blocks.length
 ·by_cases e:k.toNat=j
  ·subst e;rw[List.getElem?_set_self (by rw[pdsL_len];exact hj),pdsL_get hj,pdsAt_same hk (by omega) hn]
  ·rw[List.getElem?_set_ne e,pdsL_get hj,pdsL_get hj,pdsAt_other hk (by omega)]
 ·rw[List.getElem?_eq_none (by rw[pdsL_len];omega),List.getElem?_eq_none (by rw[List.length_set,pdsL_len];omega)]
theorem pdsAt_len:(pdsAt f B i s).length≤B+1:=by
 unfold pdsAt;rw[List.length_append];have h1:(pdsTo f B s).length≤B:=by
  unfold pdsTo;have:=List.length_filter_le (fun b=>decide ((s:Int)∈(bkAt f b).succ)) (List.range B);simpa using this
 split
 ·simpa using h1
 ·simpa using Nat.le_succ_of_le h1
end
structure BlkSt(w w1 wr:World)(gc gq:Nat)(hs:List (Option Addr×Nat))(ls:List (List Int)):Prop where
 q:Blk wr gq 38 ⟨hdrs hs ls⟩
 m:OwnMat wr (gq+1) 3 hs ls
 k:KB (fun x=>x<gq) w1 wr
 z:gq+1≤wr.heap.size
 g:w.grownBy wr (some gc)
theorem grown_more{w w1 w2:World}{row row2:Option Nat}(h:w.grownBy w1 row)(h2:w1.grownBy w2 row2)(hr:∀x,row2=some x→w.heap.size≤x):w.grownBy w2 row:=
 ⟨h2.os.trans h.os,h2.tape.trans h.tape,h2.output.trans h.output,Nat.le_trans h.size h2.size,fun k hk hne=>(h2.block k (Nat.lt_of_lt_of_le hk h.size) (fun e=>by have:=hr k e.symm;omega)).trans (h.block k hk hne)⟩
section
variable {w w1 wr w3:World} {gc gq:Nat} {hs:List (Option Addr×Nat)} {ls:List (List Int)}
theorem BlkSt.alloc(h:BlkSt w w1 wr gc gq hs ls)(o:Obj):BlkSt w w1 (wr.alloc o) gc gq hs ls:=
 ⟨h.q.alloc o,h.m.alloc o,h.k.alloc (fun x hx=>by have:=h.z;omega) o,by have:=h.z;simp;omega,h.g.trans (World.grownBy_alloc wr o (some gc))⟩
theorem BlkSt.drewN(h:BlkSt w w1 wr gc gq hs ls)(n:Nat):BlkSt w w1 (wr.drewN n) gc gq hs ls:=
 ⟨h.q,h.m.below (uC (Below.refl _ _) n) (Nat.le_refl _),h.k,h.z,grownN h.g n⟩
theorem BlkSt.kept{wa wb:World}{hs':List (Option Addr×Nat)}{ls':List (List Int)}{S:Nat→Prop}(h1:BlkSt w w1 wa gc gq hs ls)(h2:BlkSt w w1 wb gc gq hs' ls')(hS:∀b,S b→b<gq):Kept S wa wb:=fun p hp=>World.cell?_of_block ((h2.k p.block (hS _ hp)).trans (h1.k p.block (hS _ hp)).symm)
theorem BlkSt.put(h:BlkSt w w1 wr gc gq hs ls){k:Nat}{A A':Option Addr}{c c' n:Nat}{l l':List Int}{xs:List Value}(hk:hs[k]? =some (A,c))(hl:ls[k]? =some l)(hown:w3.ownsRow (gq+1) 3 1 (.slice A' n c') n xs)(hn:n=l'.length)(hx:xs=ints l')
 (hg3:wr.grownBy w3 (Value.slice A l.length c).ownBlock)(hat:(Value.slice A' n c').ownBlock=(Value.slice A l.length c).ownBlock∨(Value.slice A' n c').ownBlock=some wr.heap.size)(hwq:w.heap.size≤gq):
 BlkSt w w1 (w3.setCell ⟨gq,k,none⟩ (.slice A' n c')) gc gq (hs.set k (A',c')) (ls.set k l')∧Blk w3 gq 38 ⟨hdrs hs ls⟩:=by
 have hkl:k<ls.length:=(List.getElem?_eq_some_iff.1 hl).1;have hold:=h.m.own k _ _ hk hl;have hne:∀x,(Value.slice A l.length c).ownBlock=some x→gq<x:=fun x hx=>by
  have:=(hold.lt x (by rw[hdr_block];cases A<;>first|exact hx|simp[Value.ownBlock]at hx)).1;omega
 have q3:=h.q.grown hg3 (fun e=>by have:=hne gq e.symm;omega);have m3:=h.m.grown hk hkl hown hn hx hg3 hat;have z3:=hg3.size;have z:=h.z;refine⟨⟨?_,?_,?_,?_,?_⟩,q3⟩
 ·subst hn;exact hdrs_blk_put q3 k A' c' rfl
 ·exact m3.far (uA _ _ _) (by show gq<gq+1;omega)
 ·exact(h.k.grown hg3 (fun b hb=>by omega) (fun b hb e=>by have:=hne b e.symm;omega)).set (by show¬gq<gq;omega) _
 ·simp;omega
 ·exact uK (grown_more h.g hg3 (fun x hx=>by have:=hne x hx;omega)) (p:=⟨gq,k,none⟩) hwq _
end
theorem blocks_any{w:World}{S:Nat→Prop}{gc gv:Nat}{p:Prg}{vs:List Vs}{f:Fn}{bv qv tv lv dv:Value}(hC:Chk w S gc gv p vs f bv qv tv lv dv)(hN:f.nodes.length≤4000)(hB:f.blocks.length≤500)(hB0:0<f.blocks.length)(hrow:∀b,b<f.blocks.length→(allN (bkAt f b)).length≤1000000)(hsu:∀b,b<f.blocks.length→(bkAt f b).succ.length≤1000000∧(bkAt f b).preds.length≤1000000):
 Calls Tryz.prog 22 #[.pointer (some ⟨gc,0,none⟩)] w (BlocksPost w S gc gv p vs f lv dv):=by
 have hst:=stand_any hC hN hB hrow;have hm1:=fun W=>run_make_row' (P:=Tryz.prog) 144 38 (.slice none 0 0) 24 Tryz.underlying144 infoSl rfl .i64 .i64 f.blocks.length (by omega) (by omega) W
 rw[made_hdrs]at hm1;have hP1:∀w',w.grownBy w' (some gc)→¬(standOk f∧BlocksOk f)→BlocksPost w S gc gv p vs f lv dv (.returned (.bool false)) w':=fun w' h1 h2=>⟨h1,.inl ⟨rfl,h2⟩⟩
 have HPf:=eh hP1;have Hst:=eh hst;have hP2:∀w' gb gp gt gi gd blk plc idm dep,w.grownBy w' (some gc)→BlocksOk f→Stands f blk plc→BlocksR w w' S gc gv p vs f lv dv gb gp gt gi gd blk plc idm dep→BlocksPost w S gc gv p vs f lv dv (.returned (.bool true)) w':=fun w' gb gp gt gi gd blk plc idm dep h1 h2 h3 h4=>⟨h1,.inr ⟨rfl,h2,gb,gp,gt,gi,gd,blk,plc,idm,dep,h3,h4⟩⟩
 have HPt:=eh hP2;clear hP1 hP2 hst;generalize BlocksPost w S gc gv p vs f lv dv=Post at*;have Hrow:=eh hrow;have Hsu:=eh hsu;have HC:=eh hC;clear hrow hsu hC;go_enter Tryz.func22,Tryz.ntmps22;go_wp2_with fail;refine Hst.out.mono ?_
 rintro e w1 ⟨hg,⟨rfl,hno⟩|⟨rfl,gb,gp,blk,plc,hS,R⟩⟩
 ·have HN:=eh (show¬(standOk f∧BlocksOk f)from fun h=>hno h.1);clear hno;go_wp2;exact HPf.out _ hg HN.out
 ·obtain⟨Ac,cc,Am,cm,An,cn,Ab,cb,As,cs,hC1⟩:=R.chk;have bC:=hC1.blk;have y6:w1.cell? ⟨gc,6,none⟩=some (.slice Ab f.blocks.length cb):=bC.cell 6;have Hlt:=eh hC1.lt;have HC1:=eh hC1;have HR:=eh R;have HS:=eh hS;obtain⟨gq,hgq⟩:∃gq,gq=w1.heap.size:=⟨_,rfl⟩;have hlC:gc<gq:=by have:=bC.lt;omega
  have hlV:gv<gq:=by have:=hC1.gv.1;omega
  have hwq:w.heap.size≤gq:=by have:=hg.size;omega
  have HltQ:=eh (fun b (hb:S b)=>(show b<gq by have:=(Hlt.out b hb).1;omega));have HKQ:=eh (fun b (hb:S b∨b=gv∨b=gc)=>(show b<gq from hb.elim (HltQ.out b) (fun h=>h.elim (fun e=>e▸hlV) (fun e=>e▸hlC))));have ST0:Hid (BlkSt w w1 (w1.alloc (.cells ⟨hdrs (List.replicate f.blocks.length (none,0)) (List.replicate f.blocks.length [])⟩ 38)) gc gq (List.replicate f.blocks.length (none,0)) (pdsL f 0 0)):=eh (by
   rw[pdsL_zero];exact⟨Blk.newAt hgq.symm _ _,OwnMat.made _ _ _ _,(KB.refl _ w1).alloc (fun x hx=>by omega) _,by simp;omega,hg.trans (World.grownBy_alloc w1 _ (some gc))⟩)
  have bC2:=bC.alloc (.cells ⟨hdrs (List.replicate f.blocks.length (none,0)) (List.replicate f.blocks.length [])⟩ 38);clear hC1 R hS Hst HC;go_upto_region 4 with(fail);rw[←hgq];have Hgq:=eh hgq;clear bC hg y6 hgq;generalize w1.alloc (.cells ⟨hdrs (List.replicate f.blocks.length (none,0)) (List.replicate f.blocks.length [])⟩ 38)=w2 at*;have y6:w2.cell? ⟨gc,6,none⟩=some (.slice Ab f.blocks.length cb):=bC2.cell 6;have HA:=eh (fun wr hs ls (h:BlkSt w w1 wr gc gq hs ls)=>(show ChkAt wr S gc gv p vs f Ac cc Am cm An cn Ab cb As cs _ _ tv lv dv from HC1.out.kb (h.k.sub HKQ.out) (by have:=h.z;have:=Hgq.out;omega)));go_wp2;go_loopw [31] (fun iv wr=>∃(b:Nat) (hs:List (Option Addr×Nat)),b≤f.blocks.length∧iv=.int .i64 b∧Hid (∀c,c<b→BodyOk f (bkAt f c)∧SuccOk f (bkAt f c))∧Hid (BlkSt w w1 wr gc gq hs (pdsL f b 0))) (fun iv _=>f.blocks.length-(intOf iv).toNat)
  case atStart=>exact⟨0,_,Nat.zero_le _,rfl,eh (fun c hc=>by omega),ST0⟩
  case round=>
   clear ST0 y6 bC2;obtain⟨b,hs,hb,rfl,HO,ST⟩:=hrel;have hC2:=HA.out _ _ _ ST.out
   by_cases hlt:b<f.blocks.length
   ·skip
    have k0:(0:Int)≤b:=by omega
    have k1:(b:Int)<f.blocks.length:=by omega
    obtain⟨bb,off,A1,c1,A2,c2,A3,c3,A4,c4,hAb,hSb,x0,x1,x2,x3,r1,r2,r3,r4⟩:=rd_bk hC2.fn.blocks hlt;subst hAb;have hat:=fun k n=>HS.out.at_ b k n hlt
    have hal:=Hrow.out b hlt;have hsl:(f.blocks.getD b default).succ.length≤1000000:=(Hsu.out b hlt).1;generalize hxb:f.blocks.getD b default=xb at*;have Hxb:=eh hxb;have Hat:=eh hat;have lbb:=(hC2.lt bb hSb).1;clear hxb hat r1 r4;have bX:=Blk.new wr 43 #[.slice A1 xb.phis.length c1,.slice A2 xb.body.length c2,.slice A3 xb.succ.length c3,.slice A4 xb.preds.length c4];have ST2:=eh (ST.out.alloc (.cells #[.slice A1 xb.phis.length c1,.slice A2 xb.body.length c2,.slice A3 xb.succ.length c3,.slice A4 xb.preds.length c4] 43))
    by_cases hbe:xb.body.length=0
    ·have HN:=eh (show¬(standOk f∧BlocksOk f)from fun h=>by
      have:=(h.2.body b hlt).ne;rw[show bkAt f b=xb from Hxb.out]at this;exact this (List.eq_nil_of_length_eq_zero hbe))
     have ge:(xb.body.length==0)=true:=by simpa using hbe
     rw[hbe]at x1 ST2;clear bX hC2 r2 r3;generalize hbl3:xb.body.length=bl at*;go_wp2;exact HPf.out _ ST2.out.g HN.out
    ·have ge:(xb.body.length==0)=false:=by simpa using hbe
     have hbm:xb.body.length≤1000000:=by
      have :(allN (bkAt f b)).length=xb.phis.length+xb.body.length:=by rw[show bkAt f b=xb from Hxb.out];simp[allN]
      omega
     have hr2:=r2.keep (Kept.of_below ((Below.refl wr.heap.size wr).alloc (Nat.le_refl _) (.cells #[.slice A1 xb.phis.length c1,.slice A2 xb.body.length c2,.slice A3 xb.succ.length c3,.slice A4 xb.preds.length c4] 43)) (fun x hx=>(hC2.lt x hx).1));have hr3:=r3.keep (Kept.of_below ((Below.refl wr.heap.size wr).alloc (Nat.le_refl _) (.cells #[.slice A1 xb.phis.length c1,.slice A2 xb.body.length c2,.slice A3 xb.succ.length c3,.slice A4 xb.preds.length c4] 43)) (fun x hx=>(hC2.lt x hx).1));have y1:=bX.at1;have lX:=bX.lt;clear r2 r3 hC2;go_upto_region 9 with(fail);obtain⟨gx,hgx⟩:∃gx,gx=wr.heap.size:=⟨_,rfl⟩;rw[←hgx]at bX y1 lX⊢;clear hgx x0 x1 x2 x3 lbb;have y2:=bX.at2;generalize wr.alloc (.cells #[.slice A1 xb.phis.length c1,.slice A2 xb.body.length c2,.slice A3 xb.succ.length c3,.slice A4 xb.preds.length c4] 43)=w4 at*;have hC4:=HA.out _ _ _ ST2.out;have c5:w4.cell? ⟨gc,5,none⟩=some (.slice An f.nodes.length cn):=hC4.blk.cell 5;have c6:w4.cell? ⟨gc,6,none⟩=some (.slice (some ⟨bb,off,none⟩) f.blocks.length cb):=hC4.blk.cell 6;have hnd:=hC4.fn.nodes;have HC4:=eh hC4;have Hbe:=eh hbe;have gei:((xb.body.length:Int)==0)=false:=by simpa using hbe
     clear hC4 ST hbe ge;go_wp2;simp only[gei];go_loopw [43] (fun jv wx=>∃k:Nat,k≤xb.body.length∧jv=.int .i64 k∧Hid (∀(j:Nat) (n:Int),j<k→xb.body[j]? =some n→endAt f xb j n)∧wx=w4) (fun jv _=>xb.body.length-(intOf jv).toNat)
     case atStart=>exact⟨0,Nat.zero_le _,rfl,eh (fun j n h=>by omega),rfl⟩
     case round=>
      clear gei;obtain⟨k,hk,rfl,HE,rfl⟩:=hrel
      by_cases hkl:k<xb.body.length
      ·have j0:(0:Int)≤k:=by omega
       have j1:(k:Int)<xb.body.length:=by omega
       obtain⟨n,hn⟩:∃n,xb.body[k]? =some n:=⟨_,List.getElem?_eq_getElem hkl⟩;have hall:(allN (bkAt f b))[xb.phis.length+k]? =some n:=by
        rw[show bkAt f b=xb from Hxb.out];unfold allN;rw[List.getElem?_append_right (by omega),Nat.add_sub_cancel_left];exact hn
       obtain⟨n0,n1,-⟩:=Hat.out _ n hall;obtain⟨m,rfl⟩:∃m:Nat,n=m:=⟨n.toNat,by omega⟩;obtain⟨br,orr,hA2,hbr,z0⟩:=uX (hr2.rd (B:=gq) (fun x hx=>HltQ.out x hx)) (k:=k) hkl;subst hA2;have hnv:xb.body[k]?.getD 0=(m:Int):=by rw[hn];rfl
       rw[hnv]at z0;obtain⟨bn,on_,An2,cn2,hAn,hSn,v0,v1,v2,v3,v4,v5,v6,-⟩:=rd_nd hnd (show m<f.nodes.length by omega);subst hAn;have hEnd:∀op,(ndAt f m).op=op→(endAt f xb k (m:Int)↔if k+1=xb.body.length then endsF op=some xb.succ.length else endsF op=none):=fun op e=>by
        unfold endAt;simp only[Int.toNat_natCast];rw[e]
       have hEnd2:=hEnd _ rfl;have Hn:=eh hn;have hend:=ends_any (f.nodes.getD m default).op;generalize(f.nodes.getD m default).op=op at*;obtain⟨en,hen⟩:∃en,endsF op=en:=⟨_,rfl⟩;simp only[hen]at hend;rw[hen]at hEnd2;have Hend:=eh hend;have HE2:=eh hEnd2;have HNN:=eh (fun(h:¬endAt f xb k (m:Int))=>(show¬(standOk f∧BlocksOk f)from fun h2=>h (by
        have:=(h2.2.body b hlt).ends k m;rw[show bkAt f b=xb from Hxb.out]at this;exact this Hn.out)))
       clear v1 v2 v3 v4 v5 v6 hnv hn hall hEnd hEnd2 hend hen;have gl:((k:Int)==(xb.body.length:Int)-1)=decide (k+1=xb.body.length):=by
        rw[Bool.eq_iff_iff];simp;omega
       have Hk:=eh (fun(h:endAt f xb k (m:Int))=>(show∀(j:Nat) (n:Int),j<k+1→xb.body[j]? =some n→endAt f xb j n from fun j n' hj hn'=>by
        by_cases e:j=k
        ·subst e;rw[Hn.out]at hn';cases hn';exact h
        ·exact HE.out j n' (by omega) hn'))
       go_wp2_with fail;refine(Hend.out _).mono ?_;rintro e w5 ⟨rfl,rfl⟩;clear Hend
       by_cases hl:k+1=xb.body.length
       ·rw[decide_eq_true hl]at gl;have HE3:=eh (HE2.out.trans (by rw[if_pos hl]));clear hl;cases en with
        |none=>
         have HN:=eh (HNN.out (fun h=>by have:=HE3.out.1 h;cases this));go_wp2;exact HPf.out _ ST2.out.g HN.out
        |some mm=>
         by_cases hm:mm=xb.succ.length
         ·have HK2:=eh (Hk.out (HE3.out.2 (by rw[hm])));have gm:((xb.succ.length:Int) != (mm:Int))=false:=by simp;omega
          clear hm;go_wp2;go_roundw
          case rel=>exact⟨k+1,by omega,by go_num,HK2,trivial⟩
          case measure=>simp[intOf];omega
         ·have HN:=eh (HNN.out (fun h=>by have:=HE3.out.1 h;cases this;exact hm rfl));have gm:((xb.succ.length:Int) != (mm:Int))=true:=by simp;omega
          clear hm;go_wp2;exact HPf.out _ ST2.out.g HN.out
       ·rw[decide_eq_false hl]at gl;have HE3:=eh (HE2.out.trans (by rw[if_neg hl]));cases en with
        |none=>
         have HK2:=eh (Hk.out (HE3.out.2 rfl));go_wp2;go_roundw
         case rel=>exact⟨k+1,by omega,by go_num,HK2,trivial⟩
         case measure=>simp[intOf];omega
        |some mm=>
         have HN:=eh (HNN.out (fun h=>by have:=HE3.out.1 h;cases this));go_wp2;exact HPf.out _ ST2.out.g HN.out
      ·have hge:¬(k:Int)<xb.body.length:=by omega
       have HBO:=eh (show BodyOk f (bkAt f b)from by
        rw[show bkAt f b=xb from Hxb.out];exact⟨fun h=>Hbe.out (by rw[h];rfl),fun j n hn=>HE.out j n (by have:=(List.getElem?_eq_some_iff.1 hn).1;omega) hn⟩)
       have HR3:=eh hr3;clear hkl hr2 hr3 HE;go_wp2;go_loopw [83] (fun jv wx=>∃(i:Nat) (hs:List (Option Addr×Nat)),i≤xb.succ.length∧jv=.int .i64 i∧Hid (∀(j:Nat) (s:Int),j<i→xb.succ[j]? =some s→(0≤s∧s<f.blocks.length)∧s∉xb.succ.take j)∧Hid (BlkSt w w1 wx gc gq hs (pdsL f b i))) (fun jv _=>xb.succ.length-(intOf jv).toNat)
       case atStart=>exact⟨0,hs,Nat.zero_le _,rfl,eh (fun j s h=>by omega),ST2⟩
       case round=>
        clear c5 c6 y1 y2 hnd bX lX;obtain⟨i,hs,hi,rfl,HU,ST⟩:=hrel
        by_cases hil:i<xb.succ.length
        ·have i0:(0:Int)≤i:=by omega
         have i1:(i:Int)<xb.succ.length:=by omega
         obtain⟨s,hsx⟩:∃s,xb.succ[i]? =some s:=⟨_,List.getElem?_eq_getElem hil⟩;have hC5:=HA.out _ _ _ ST.out;have d6:wr.cell? ⟨gc,6,none⟩=some (.slice (some ⟨bb,off,none⟩) f.blocks.length cb):=hC5.blk.cell 6;obtain⟨br,orr,hA3,hbr,z0⟩:=uX ((HR3.out.keep (BlkSt.kept ST2.out ST.out HltQ.out)).rd (B:=gq) HltQ.out) (k:=i) hil;subst hA3;have hsv:xb.succ[i]?.getD 0=s:=by rw[hsx];rfl
         rw[hsv]at z0;have hCl:=hC5.blk.lt;have hz5:=ST.out.z;have HSn:=eh (fun(h:(0≤s∧s<f.blocks.length)→s∈xb.succ.take i)=>(show¬(standOk f∧BlocksOk f)from fun h2=>by
          have hso:=h2.2.succ b hlt;rw[show bkAt f b=xb from Hxb.out]at hso;exact nodup_not hsx (h (hso.rng s (List.mem_of_getElem? hsx))) hso.nodup))
         have Hsx:=eh hsx;clear hsx hsv hC5;cases hin:inB s f.blocks.length with
         |false=>
          have Hin:=eh hin;have HN:=eh (HSn.out (fun h=>by exfalso;unfold inB at hin;simp at hin;omega));clear hin;go_wp2_with fail;refine(uM Hin.out _).mono ?_;rintro e w' ⟨rfl,hw'⟩;rw[hw'];clear hw';go_wp2;exact HPf.out _ ST.out.g HN.out
         |true=>
          have hr0:0≤s∧s<f.blocks.length:=by unfold inB at hin;simp at hin;exact hin
          have Hin:=eh hin;obtain⟨q,rfl⟩:∃q:Nat,s=q:=⟨s.toNat,by omega⟩;have q0:(0:Int)≤q:=by omega
          have q1:(q:Int)<f.blocks.length:=by omega
          have hget:=pdsL_get (f:=f) (B:=b) (i:=i) (s:=q) (by omega);have hln:=pdsAt_len (f:=f) (B:=b) (i:=i) (s:=q);obtain⟨A5,c5,hh1,-,hown⟩:=ST.out.m.get (k:=q) (by rw[pdsL_len];omega);rw[show(pdsL f b i).getD q []=pdsAt f b i q by rw[List.getD_eq_getElem?_getD,hget];rfl]at hown;have hstep:=fun h=>pdsL_step (f:=f) (B:=b) (i:=i) (k:=(q:Int)) (by rw[show bkAt f b=xb from Hxb.out];exact Hsx.out) q0 q1 h
          have hmm:=pdsAt_mem (f:=f) (B:=b) (i:=i) (s:=q);simp only[Int.toNat_natCast]at hstep;rw[show bkAt f b=xb from Hxb.out]at hmm hstep;have Hstep:=eh hstep;have Hmm:=eh hmm;have Hget:=eh hget;have y5:wr.cell? ⟨gq,q,none⟩=some (.slice A5 (pdsAt f b i q).length c5):=hdrs_cell ST.out.q hh1 hget;clear hin hr0 hstep hmm hget;generalize pdsAt f b i q=la at*;go_wp2_with fail;refine(uM Hin.out _).mono ?_;rintro e w' ⟨rfl,hw'⟩;rw[hw'];clear hw';go_wp2_with fail;refine(contains_any _ (own_rd hown) (by omega) _).mono ?_;rintro e w' ⟨rfl,hw'⟩;rw[←hw'];clear hw'
          by_cases hm:(b:Int)∈la
          ·rw[decide_eq_true hm];have HN:=eh (HSn.out (fun _=>Hmm.out.1 hm));clear hm;go_wp2;exact HPf.out _ ST.out.g HN.out
          ·rw[decide_eq_false hm];have hnt:(q:Int)∉xb.succ.take i:=fun h=>hm (Hmm.out.2 h)
           have Hst:=eh (Hstep.out hnt);have Hnt:=eh hnt;clear hm hnt;go_wp2_with (at_builtin
                                                                                   refine wpList_append_row rfl (.tmp 109) (.tmp 111) 38 rfl (gq+1) 3 _ 1 8 Tryz.underlying38 infoIntR rfl (by omega) A5 c5 la.length (ints la) rfl (hown.alloc _) wr.heap.size 1 1 3 [.int .i64 (b:Int)] rfl (Blk.new _ _ _) rfl (by intro u hu;simp at hu;subst hu;rfl) (by unfold maxLen;omega) (by omega) (by simp;omega) ?_;intro A6 c6 w3 hown3 hg3 hat3;have hpp:=eh ((ST.out.alloc (.cells ⟨[.int .i64 (b:Int)]⟩ 3)).put (l':=la++[(b:Int)]) hh1 Hget.out hown3 (by simp) (by simp[ints]) hg3 hat3 hwq);have f4:=hpp.out.2.frozen q;have y4:=hdrs_cell hpp.out.2 hh1 Hget.out;have l4:=hpp.out.2.lt)
           go_roundw
           case rel=>exact⟨i+1,_,by omega,by go_num,eh (fun j s' hj hs'=>by
            by_cases e:j=i
            ·subst e;rw[Hsx.out]at hs';cases hs';exact⟨⟨q0,q1⟩,Hnt.out⟩
            ·exact HU.out j s' (by omega) hs'),eh (by rw[Hst.out];exact hpp.out.1)⟩
           case measure=>simp[intOf];omega
        ·have e:i=xb.succ.length:=by omega
         have hge:¬(i:Int)<xb.succ.length:=by omega
         have HSO:=eh (show SuccOk f (bkAt f b)from by
          rw[show bkAt f b=xb from Hxb.out];refine⟨fun s hs=>?_,nodup_of_takes fun j s hj=>(HU.out j s (by have:=(List.getElem?_eq_some_iff.1 hj).1;omega) hj).2⟩;obtain⟨j,hj,rfl⟩:=List.mem_iff_getElem.1 hs;exact(HU.out j _ (by omega) (List.getElem?_eq_getElem hj)).1)
         have hrw:=pdsL_row (f:=f) (B:=b) (i:=i) (by rw[show bkAt f b=xb from Hxb.out];omega);have Hrw:=eh hrw;clear hil e hrw;go_wp2;go_roundw
         case rel=>exact⟨b+1,hs,by omega,by go_num,eh (fun c hc=>by
          by_cases e:c=b
          ·subst e;exact⟨HBO.out,HSO.out⟩
          ·exact HO.out c (by omega)),eh (by rw[←Hrw.out];exact ST.out)⟩
         case measure=>simp[intOf];omega
   ·obtain rfl:b=f.blocks.length:=by omega
    have hge:¬(f.blocks.length:Int)<f.blocks.length:=by omega
    have y6:wr.cell? ⟨gc,6,none⟩=some (.slice Ab f.blocks.length cb):=hC2.blk.cell 6;have hCl:=hC2.blk.lt;clear hlt hC2;go_wp2;go_loopw [122] (fun iv wx=>∃c:Nat,c≤f.blocks.length∧iv=.int .i64 c∧Hid (∀j,j<c→(bkAt f j).preds=pdsTo f f.blocks.length j)∧Hid (BlkSt w w1 wx gc gq hs (pdsL f f.blocks.length 0))) (fun iv _=>f.blocks.length-(intOf iv).toNat)
    case atStart=>exact⟨0,Nat.zero_le _,rfl,eh (fun j h=>by omega),ST⟩
    case round=>
     clear y6 hCl ST;obtain⟨c,hc,rfl,HP4,ST⟩:=hrel;have hC2:=HA.out _ _ _ ST.out;have y6:wr.cell? ⟨gc,6,none⟩=some (.slice Ab f.blocks.length cb):=hC2.blk.cell 6;have hCl:=hC2.blk.lt
     by_cases hlt:c<f.blocks.length
     ·have k0:(0:Int)≤c:=by omega
      have k1:(c:Int)<f.blocks.length:=by omega
      obtain⟨bb,off,A1,c1,A2,c2,A3,c3,A4,c4,hAb,hSb,x0,x1,x2,x3,r1,r2,r3,r4⟩:=rd_bk hC2.fn.blocks hlt;subst hAb;have hpl:(f.blocks.getD c default).preds.length≤1000000:=(Hsu.out c hlt).2;have lbb:=(hC2.lt bb hSb).1;have hget:=pdsL_get (f:=f) (B:=f.blocks.length) (i:=0) (s:=c) hlt;rw[pdsAt_zero]at hget;obtain⟨A5,c5,hh1,-,hown⟩:=ST.out.m.get (k:=c) (by rw[pdsL_len];exact hlt);rw[show(pdsL f f.blocks.length 0).getD c []=pdsTo f f.blocks.length c by rw[List.getD_eq_getElem?_getD,hget];rfl]at hown;have hno:(f.blocks.getD c default).preds≠pdsTo f f.blocks.length c→¬(standOk f∧BlocksOk f):=fun h h2=>h (h2.2.preds c hlt)
      have HNO:=eh hno;have hyes:(f.blocks.getD c default).preds=pdsTo f f.blocks.length c→∀j,j<c+1→(bkAt f j).preds=pdsTo f f.blocks.length j:=fun h j hj=>by
       by_cases e:j=c
       ·subst e;exact h
       ·exact HP4.out j (by omega)
      have HYES:=eh hyes;have Hget:=eh hget;clear r1 r2 r3 hno hyes hget hC2;generalize f.blocks.getD c default=xb at*;generalize pdsTo f f.blocks.length c=la at*;have bX:=Blk.new wr 43 #[.slice A1 xb.phis.length c1,.slice A2 xb.body.length c2,.slice A3 xb.succ.length c3,.slice A4 xb.preds.length c4];have ST2:=eh (ST.out.alloc (.cells #[.slice A1 xb.phis.length c1,.slice A2 xb.body.length c2,.slice A3 xb.succ.length c3,.slice A4 xb.preds.length c4] 43));have y5:=hdrs_cell ST2.out.q hh1 Hget.out;have hr4:=(r4.keep (BlkSt.kept ST.out ST2.out HltQ.out)).rd (B:=gq) HltQ.out;have hrow:=own_rd (hown.alloc (.cells #[.slice A1 xb.phis.length c1,.slice A2 xb.body.length c2,.slice A3 xb.succ.length c3,.slice A4 xb.preds.length c4] 43));have lX:=bX.lt;clear r4 hown hh1;go_upto_region 27 with(fail);obtain⟨gx,hgx⟩:∃gx,gx=wr.heap.size:=⟨_,rfl⟩;rw[←hgx]at bX lX⊢;clear hgx x0 x1 x2 x3 lbb y6 hCl;have y3:=bX.at3;generalize wr.alloc (.cells #[.slice A1 xb.phis.length c1,.slice A2 xb.body.length c2,.slice A3 xb.succ.length c3,.slice A4 xb.preds.length c4] 43)=w4 at*;have lq:=ST2.out.q.lt
      by_cases he:xb.preds=la
      ·have Hq:=eh (fun n=>equal_eq (c1:=c4) (c2:=c5) (decide_eq_true he) (w4.drewN n) (hr4.drewN n) (hrow.drewN n) (by omega));have HY:=eh (HYES.out he);have hcc:c5=c5:=rfl;clear hr4 hrow he HYES HNO bX hcc;go_quiet ((go_at_call 46;exact Calls.quiet_of (Hq.out _)));rename Nat=>q
       go_wp2;go_roundw
       case rel=>exact⟨c+1,by omega,by go_num,HY,eh (ST2.out.drewN q)⟩
       case measure=>simp[intOf];omega
      ·have Hq:=eh (fun n=>equal_eq (c1:=c4) (c2:=c5) (decide_eq_false he) (w4.drewN n) (hr4.drewN n) (hrow.drewN n) (by omega));have HN:=eh (HNO.out he);clear hr4 hrow he HYES HNO bX;go_quiet ((go_at_call 46;exact Calls.quiet_of (Hq.out _)));rename Nat=>q
       go_wp2;exact HPf.out _ (ST2.out.drewN q).g HN.out
     ·obtain rfl:c=f.blocks.length:=by omega
      have hge:¬(f.blocks.length:Int)<f.blocks.length:=by omega
      have z3:wr.cell? ⟨gc,3,none⟩=some (.int .i64 f.mth):=hC2.blk.cell 3;have z4:wr.cell? ⟨gc,4,none⟩=some (.int .i64 f.entry):=hC2.blk.cell 4;have z5:wr.cell? ⟨gc,5,none⟩=some (.slice An f.nodes.length cn):=hC2.blk.cell 5;have z7:wr.cell? ⟨gc,7,none⟩=some (.slice As f.states.length cs):=hC2.blk.cell 7;have HC2:=eh hC2;have Hgl:=eh (show(grF f).length=f.blocks.length by simp[grF]);clear hlt hC2;go_wp2_with fail;refine(graph_any An Ab As cn cb cs f _ HC2.out.fn.blocks (fun b hb=>(HC2.out.lt b hb).1) hB (fun b hb=>(Hsu.out b hb).1)).mono ?_;rintro e w6 ⟨G,hsG,rfl,bG,mG,hG,hb6⟩;go_wp2_with fail;refine(domOf_any (some ⟨G,0,none⟩) (grF f).length (grF f) w6 (mG.rd bG bG.lt (fun b _ h=>h)) (by rw[Hgl.out];omega) (by rw[Hgl.out];omega) (Nat.le_refl _) (fun i hi=>by
       rw[Hgl.out]at hi;have hi':i<f.blocks.length:=hi;rw[List.getD_eq_getElem?_getD,gr_at hi'];have:=(Hsu.out i hi').1;exact Nat.le_trans this (by decide))).mono ?_
      rintro e w7 ⟨gt,gi,gd,idm,dep,rfl,T,TO,h1,h2,h3,hb7⟩;have hb67:Below wr.heap.size wr w7:=hb6.trans (hb7.mono hb6.size);have hC7:=HC2.out.kb (KB.of_below hb67 (fun b hb=>by have:=HKQ.out b hb;have:=ST.out.z;omega)) hb67.size;have hC8:=hC7.tree (.pointer (some ⟨gt,0,none⟩));have t10:w7.cell? ⟨gc,10,none⟩=some tv:=hC7.blk.cell 10;have f10:=hC7.blk.frozen 10;have l10:=hC7.blk.lt;have z6:=hb6.size;rw[Hgl.out]at T TO;have T8:=T.kb (S:=fun b=>b≠gc) ((KB.refl _ w7).set (p:=⟨gc,10,none⟩) (by show¬gc≠gc;simp) (.pointer (some ⟨gt,0,none⟩))) (by show gt≠gc;omega) (by show gi≠gc;omega) (by show gd≠gc;omega);have G8:=(ST.out.g.trans (uI hb67 (Nat.le_refl _) (some gc))).trans (uA w7 ⟨gc,10,none⟩ (.pointer (some ⟨gt,0,none⟩)));have hzr:=ST.out.z;have K8:KB (fun b=>b<gq∧b≠gc) w1 (w7.setCell ⟨gc,10,none⟩ (.pointer (some ⟨gt,0,none⟩))):=(((ST.out.k.sub (S':=fun b=>b<gq∧b≠gc) (fun b hb=>hb.1)).below hb67 (fun b hb=>by omega))).set (by show¬(gc<gq∧gc≠gc);simp) _;have hnew:w.heap.size≤gt∧w.heap.size≤gi∧w.heap.size≤gd:=by omega
      have HC8:=eh hC8;have HT8:=eh T8;have HG8:=eh G8;have HK8:=eh K8;have HTO:=eh TO;clear hC7 hC8 T8 G8 K8 T TO bG mG hG hb6 hb7 hb67 z3 z4 z5 z7 y6 hCl z6 h1 h2 h3 HC2;go_upto_region 31 with(fail);clear t10 f10 l10;generalize w7.setCell ⟨gc,10,none⟩ (.pointer (some ⟨gt,0,none⟩))=w8 at*;have y6:w8.cell? ⟨gc,6,none⟩=some (.slice Ab f.blocks.length cb):=HC8.out.blk.cell 6;have y10:w8.cell? ⟨gc,10,none⟩=some (.pointer (some ⟨gt,0,none⟩)):=HC8.out.blk.cell 10;have lC8:=HC8.out.blk.lt;go_wp2;go_loopw [151] (fun iv wx=>∃c q:Nat,c≤f.blocks.length∧iv=.int .i64 c∧Hid (∀j,j<c→Reach (EI (grF f)) j)∧wx=w8.drewN q) (fun iv _=>f.blocks.length-(intOf iv).toNat)
      case atStart=>exact⟨0,0,Nat.zero_le _,rfl,eh (fun j h=>by omega),rfl⟩
      case round=>
       obtain⟨c,q,hc,rfl,HRE,rfl⟩:=hrel
       by_cases hlt:c<f.blocks.length
       ·have k0:(0:Int)≤c:=by omega
        have k1:(c:Int)<f.blocks.length:=by omega
        have haz:=above_zero (E:=EI (grF f)) hlt;have hab:=above_any HTO.out (by omega) (HT8.out.drewN q) 0 (c:Int);cases hb:aboveB (EI (grF f)) f.blocks.length 0 c with
        |false=>
         rw[hb]at hab;have HAB:=eh hab;have HN:=eh (show¬(standOk f∧BlocksOk f)from fun h=>by
          have:=haz.2 (h.2.reach c hlt);rw[hb]at this;cases this)
         clear hab hb haz;go_wp2_with fail;refine HAB.out.mono ?_;rintro e w' ⟨q2,rfl,rfl⟩;go_wp2;exact HPf.out _ (grownN HG8.out _) HN.out
        |true=>
         rw[hb]at hab;have HAB:=eh hab;have HR2:=eh (show∀j,j<c+1→Reach (EI (grF f)) j from fun j hj=>by
          by_cases e:j=c
          ·subst e;exact haz.1 hb
          ·exact HRE.out j (by omega))
         clear hab hb haz;go_wp2_with fail;refine HAB.out.mono ?_;rintro e w' ⟨q2,rfl,rfl⟩;go_wp2;go_roundw
         case rel=>exact⟨c+1,q+q2,by omega,by go_num,HR2,by first|rfl|exact World.drewN_drewN _ _ _⟩
         case measure=>simp[intOf];omega
       ·obtain rfl:c=f.blocks.length:=by omega
        have hge:¬(f.blocks.length:Int)<f.blocks.length:=by omega
        obtain⟨bb,off,A1,c1,A2,c2,A3,c3,A4,c4,hAb,hSb,x0,x1,x2,x3,-,-,-,-⟩:=rd_bk HC8.out.fn.blocks hB0;subst hAb;simp only[Nat.zero_mul,Nat.add_zero]at x0 x3;obtain⟨xb,hxb⟩:∃xb,f.blocks.getD 0 default=xb:=⟨_,rfl⟩;rw[hxb]at x0 x3;have n1:(0:Int)<f.blocks.length:=by omega
        have lbb:=(HC8.out.lt bb hSb).1;have HT:=eh (show xb.preds=[]∧xb.phis=[]→Post (.returned (.bool true)) (w8.drewN q)from fun h=>by
         rw[←hxb]at h;have hK:=HK8.out;have R:=HR.out;have hbn:gb≠gc:=Blk.ne_ R.bb HC1.out.blk (by decide);have hpn:gp≠gc:=Blk.ne_ R.bp HC1.out.blk (by decide);have hgq:=Hgq.out;have hbl:=R.bb.lt;have hpl:=R.bp.lt;refine HPt.out _ gb gp gt gi gd blk plc idm dep (grownN HG8.out q) ⟨fun b hb=>(HO.out b hb).1,fun b hb=>(HO.out b hb).2,HP4.out,HRE.out,h⟩ HS.out ⟨⟨Ac,cc,Am,cm,An,cn,some ⟨bb,off,none⟩,cb,As,cs,?_⟩,?_,?_,HT8.out.drewN q,HTO.out,R.lb,R.lp,hnew⟩
         ·exact HC8.out.kb (fun _ _=>rfl) (Nat.le_refl _)
         ·exact R.bb.kb hK (by omega)
         ·exact R.bp.kb hK (by omega))
        have HF:=eh (show¬(xb.preds=[]∧xb.phis=[])→Post (.returned (.bool false)) (w8.drewN q)from fun h=>HPf.out _ (grownN HG8.out q) (fun h2=>h (by rw[←hxb];exact h2.2.root)));clear x1 x2;have ep:=List.length_eq_zero_iff (l:=xb.preds);have eq:=List.length_eq_zero_iff (l:=xb.phis);have Hep:=eh ep;have Heq:=eh eq;clear ep eq hxb
        by_cases e1:xb.preds.length=0
        ·by_cases e2:xb.phis.length=0
         ·have HX:=eh (HT.out ⟨Hep.out.1 e1,Heq.out.1 e2⟩);rw[e1]at x3;rw[e2]at x0;go_wp2;exact HX.out
         ·have HX:=eh (HF.out (fun h=>e2 (Heq.out.2 h.2)));have g2:((xb.phis.length:Int)==0)=false:=by simpa using e2
          rw[e1]at x3;go_wp2;exact HX.out
        ·have HX:=eh (HF.out (fun h=>e1 (Hep.out.2 h.1)));have g1:((xb.preds.length:Int)==0)=false:=by simpa using e1
         go_wp2;exact HX.out
end Go.Proofs.YtgbgbmdiomhfiaaGreatDoor