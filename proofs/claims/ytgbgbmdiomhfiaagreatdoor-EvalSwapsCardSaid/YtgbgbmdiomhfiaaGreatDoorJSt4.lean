/-
 St2, St3, St4.
-/
import Derived.Test.YtgbgbmdiomhfiaaGreatDoorJSt1
import Derived.Test.YtgbgbmdiomhfiaaGreatDoorJRv1
set_option linter.unusedSimpArgs false
set_option linter.unusedVariables false
set_option maxHeartbeats 8000000
set_option maxRecDepth 100000
namespace Go.Proofs.YtgbgbmdiomhfiaaGreatDoor
open Go.RowKit Go.Maps
def slotB(f:Fn)(x:Int)(l:ByteArray)(n:Nat):Bool:=if x≤-2 then decide (l=sR)&&inB (-2-x) n else inB x f.nodes.length&&decide ((f.nodes.getD x.toNat default).kind=l)
theorem slot_any{w:World}{S:Nat→Prop}{gc gv:Nat}{p:Prg}{vs:List Vs}{f:Fn}{bv qv tv lv dv:Value}(hC:Chk w S gc gv p vs f bv qv tv lv dv){x:Int}(hx: -9223372036854775808≤x)(l:ByteArray)(n:Nat):
 Calls Tryz.prog 89 #[.pointer (some ⟨gc,0,none⟩),.int .i64 x,.string l,.int .i64 n] w fun e w'=>e=.returned (.bool (slotB f x l n))∧w'=w:=by
 obtain⟨Ac,cc,Am,cm,An,cn,Ab,cb,As,cs,hC⟩:=hC;have c5:w.cell? ⟨gc,5,none⟩=some (.slice An f.nodes.length cn):=hC.blk.cell 5;have lC:=hC.blk.lt;have HC:=eh hC
 by_cases hn:x≤-2
 ·have hw:wrap64 (-2-x)= -2-x:=by unfold wrap64;omega
  have hF:slotB f x l n=(decide (l=sR)&&inB (-2-x) n):=by unfold slotB;rw[if_pos hn]
  rw[hF];have Hi:=eh (ssaIn_any (-2-x) n w);have hs:(l.toList==[82])=decide (l=sR):=by rw[←show sR.toList=[82] by decide+kernel];exact str_eqb3 l sR
  obtain⟨r,hr⟩:∃r,r=decide (l=sR):=⟨_,rfl⟩;rw[←hr]at hs⊢;clear hF hr;cases r
  ·go_enter Tryz.func89,Tryz.ntmps89;go_wp2;go_ret;exact⟨rfl,rfl⟩
  ·go_enter Tryz.func89,Tryz.ntmps89;go_wp2_with (go_at_call 41;refine Hi.out.mono ?_;rintro e w' ⟨rfl,rfl⟩);go_ret;exact⟨rfl,rfl⟩
 ·have hF:slotB f x l n=(inB x f.nodes.length&&decide ((f.nodes.getD x.toNat default).kind=l)):=by unfold slotB;rw[if_neg hn]
  rw[hF];cases hi:inB x f.nodes.length with
  |false=>
   have Hi:=eh (uM hi w);clear hF hi;go_enter Tryz.func89,Tryz.ntmps89;go_wp2_with (go_at_call 41;refine Hi.out.mono ?_;rintro e w' ⟨rfl,rfl⟩);go_ret;exact⟨rfl,rfl⟩
  |true=>
   have Hi:=eh (uM hi w);have⟨q0,q1⟩:=uJ hi;obtain⟨k,rfl⟩:∃k:Nat,x=k:=⟨x.toNat,by omega⟩;have hk:k<f.nodes.length:=by omega
   obtain⟨b,off,A1,c1,hA,hS,-,-,-,-,v4,-⟩:=rd_nd HC.out.fn.nodes hk;subst hA;have lb:=(HC.out.lt b hS).1;have hs:=str_eqb3 (f.nodes.getD k default).kind l;rw[Int.toNat_natCast];generalize f.nodes.getD k default=nd at*;obtain⟨r,hr⟩:∃r,r=decide (nd.kind=l):=⟨_,rfl⟩;rw[←hr]at hs⊢;clear hF hi hr;go_enter Tryz.func89,Tryz.ntmps89;go_wp2_with (go_at_call 41;refine Hi.out.mono ?_;rintro e w' ⟨rfl,rfl⟩);go_ret;exact⟨rfl,rfl⟩
theorem cell_gtS{w:World}{g o:Nat}{v:Value}(h:w.cell? ⟨g,o,none⟩=some v):g<w.heap.size:=World.block_lt_of_cell? w ⟨g,o,none⟩ h
theorem StsAt.asked{w w':World}{S:Nat→Prop}{gc gv gl B0:Nat}{p:Prg}{vs:List Vs}{f:Fn}{bv qv tv dv:Value}{F:Nat→Option Nat}(h:StsAt w S gc gv gl B0 p vs f bv qv tv dv F)(hI:InfoG w' S gv p vs)(hg:w.grownBy w' (some gv)):
 StsAt w' S gc gv gl B0 p vs f bv qv tv dv F∧Fr B0 gv gl w w':=by
 have hl:=h.low;refine⟨⟨h.chk.asked hg hI,h.map.kept hg (fun e=>hl.2.2.2.2.2.2.1 (Option.some.inj e)),⟨hl.1,hl.2.1,hl.2.2.1,hl.2.2.2.1,hl.2.2.2.2.1,Nat.le_trans hl.2.2.2.2.2.1 hg.size,hl.2.2.2.2.2.2⟩,h.lo2,h.tz.grown hg (by show 13≠gv;omega),fun j g' e=>?_,h.inj⟩,Fr.of_grown hg (fun g e=>by cases e;exact .inl rfl)⟩;obtain⟨q1,q2,q3,Sj,q4,q5⟩:=h.ent j g' e;exact⟨q1,q2,Nat.lt_of_lt_of_le q3 hg.size,Sj,q4.kb (KB.of_grown hg (fun b q=>q.elim (fun q=>(q5 b q).2.1) (fun e=>e▸q3)) (fun b q e=>by
  cases e;rcases q with q|q
  ·have:=(q5 _ q).1;omega
  ·omega)) hg.size,fun b q=>⟨(q5 b q).1,Nat.lt_of_lt_of_le (q5 b q).2.1 hg.size,(q5 b q).2.2⟩⟩
abbrev stc(s:Ste)(A1 A2 A3:Option Addr)(c1 c2 c3:Nat):Array Value:=#[.int .i64 s.mth,.int .i64 s.pc,.int .i64 s.up,.slice A1 s.locals.length c1,.slice A2 s.stack.length c2,.slice A3 s.virts.length c3]
def headB(p:Prg)(vs:List Vs)(f:Fn)(s:Ste):Bool:=inB s.mth p.methods.length&& !(decide (s.up= -1)&&decide (s.mth≠f.mth))&&((stackF vs s.mth s.pc).2&&decide (s.locals.length=nloc (mthAt p s.mth.toNat)))
def AnsPost(w:World)(S:Nat→Prop)(gc gv gl B0:Nat)(p:Prg)(vs:List Vs)(f:Fn)(bv qv tv dv:Value)(b:Bool)(e:Ending)(w':World):Prop:=
 e=.returned (.bool b)∧Sts w' S gc gv gl B0 p vs f bv qv tv dv∧Fr B0 gv gl w w'
theorem head_any2{w:World}{S:Nat→Prop}{gc gv gl B0:Nat}{p:Prg}{vs:List Vs}{f:Fn}{bv qv tv dv:Value}(h:Sts w S gc gv gl B0 p vs f bv qv tv dv)(hp:PIn p vs)(s:Ste)(A1 A2 A3:Option Addr)(c1 c2 c3:Nat):
 Calls Tryz.prog 86 #[.pointer (some ⟨gc,0,none⟩),.agg (stc s A1 A2 A3 c1 c2 c3)] w (AnsPost w S gc gv gl B0 p vs f bv qv tv dv (headB p vs f s)):=by
 obtain⟨F,h⟩:=h;have HPi:=eh hp;have HP:=eh (fun b w' (h0:headB p vs f s=b) (h1:Sts w' S gc gv gl B0 p vs f bv qv tv dv) (h2:Fr B0 gv gl w w')=>(show AnsPost w S gc gv gl B0 p vs f bv qv tv dv (headB p vs f s) (.returned (.bool b)) w' from⟨by rw[h0],h1,h2⟩));have hb1:=(Below.refl w.heap.size w).alloc (Nat.le_refl _) (.cells (stc s A1 A2 A3 c1 c2 c3) 47);have bX:=Blk.new w 47 (stc s A1 A2 A3 c1 c2 c3);have h1:=h.below hb1;have hF1:Fr B0 gv gl w _:=Fr.of_below hb1 (Nat.le_refl _);have ne1:w.heap.size≠gv∧w.heap.size≠gl:=by have:=h.low;omega
 clear h hp;generalize AnsPost w S gc gv gl B0 p vs f bv qv tv dv (headB p vs f s)=Post at*;go_enter Tryz.func86,Tryz.ntmps86;go_upto_region 1 with(fail);obtain⟨gx,hgx⟩:∃gx,gx=w.heap.size:=⟨_,rfl⟩;rw[←hgx]at bX ne1⊢;clear hgx hb1;generalize w.alloc (.cells (stc s A1 A2 A3 c1 c2 c3) 47)=w1 at*;have x0:=bX.at0;have x2:=bX.at2;have lX:=bX.lt;have H1:=eh h1;obtain⟨Ac,cc,Am,cm,An,cn,Ab,cb,As,cs,hC⟩:=h1.chk;have d2:w1.cell? ⟨gc,2,none⟩=some (.slice Am p.methods.length cm):=hC.blk.cell 2;have d3:w1.cell? ⟨gc,3,none⟩=some (.int .i64 f.mth):=hC.blk.cell 3;have lC:=hC.blk.lt;have HX:=eh bX;have HF1:=eh hF1;clear h1 hC bX hF1;obtain⟨b1,hb1⟩:∃b1,inB s.mth p.methods.length=b1:=⟨_,rfl⟩;obtain⟨b2,hb2⟩:∃b2,(s.up== -1)=b2:=⟨_,rfl⟩;obtain⟨b3,hb3⟩:∃b3,(s.mth != f.mth)=b3:=⟨_,rfl⟩;have HH:=eh (show headB p vs f s=(b1&& !(b2&&b3)&&((stackF vs s.mth s.pc).2&&decide (s.locals.length=nloc (mthAt p s.mth.toNat)))) by
  unfold headB;rw[hb1,←hb2,←hb3];have e2:decide (s.up= -1)=(s.up== -1):=by rw[Bool.eq_iff_iff];simp
  have e3:decide (s.mth≠f.mth)=(s.mth != f.mth):=by rw[Bool.eq_iff_iff];simp
  rw[e2,e3])
 have Hb1:=eh hb1;go_cut [31]from 7 to 31 (fun v wx=>v=.bool (!(b1&& !(b2&&b3)))∧∃q,wx=w1.drewN q)
 case first=>
  cases b1 with
  |false=>
   go_quiet ((go_at_call 41;exact Calls.quiet_of_same (uM Hb1.out _)));rename Nat=>q
   go_wp2;go_meet;exact⟨rfl,q,rfl⟩
  |true=>
   cases b2 with
   |false=>
    go_quiet ((go_at_call 41;exact Calls.quiet_of_same (uM Hb1.out _)));rename Nat=>q
    go_wp2;go_meet;exact⟨rfl,q,rfl⟩
   |true=>
    cases b3
    ·go_quiet ((go_at_call 41;exact Calls.quiet_of_same (uM Hb1.out _)));rename Nat=>q
     go_wp2;go_meet;exact⟨rfl,q,rfl⟩
    ·go_quiet ((go_at_call 41;exact Calls.quiet_of_same (uM Hb1.out _)));rename Nat=>q
     go_wp2;go_meet;exact⟨rfl,q,rfl⟩
 case rest=>
  obtain⟨rfl,q,hwc⟩:=hcut;have hbq:Below w1.heap.size w1 wc:=by rw[hwc];exact uC (Below.refl _ w1) q
  have H2:=eh (H1.out.below hbq);have HF2:=eh (HF1.out.trans (Fr.of_below hbq (Nat.le_refl _)));have HX2:=eh (HX.out.below hbq HX.out.lt);clear hbq hwc x0 x2 lX d2 d3 lC H1 HF1 HX hb2 hb3;obtain⟨r0,hr0⟩:∃r0,r0=(b1&& !(b2&&b3)):=⟨_,rfl⟩;rw[←hr0]at HH⊢;cases r0 with
  |false=>
   have HR:=eh (HP.out false wc HH.out ⟨F,H2.out⟩ HF2.out);clear hr0;go_wp2;exact HR.out
  |true=>
   have hin:inB s.mth p.methods.length=true:=by
    rw[Hb1.out];cases b1
    ·cases hr0
    ·rfl
   have⟨hm0,hm1⟩:=uJ hin;obtain⟨mi,hmi⟩:∃mi:Nat,s.mth=mi:=⟨s.mth.toNat,by omega⟩;have hml:mi<p.methods.length:=by omega
   have Hmi:=eh hmi;have hHv:=H2.out.chk;obtain⟨Ac,cc,Am,cm,An,cn,Ab,cb,As,cs,hC⟩:=hHv;have d0:wc.cell? ⟨gc,0,none⟩=some (.pointer (some ⟨gv,0,none⟩)):=hC.blk.cell 0;have x0:=HX2.out.at0;have x1:=HX2.out.at1;have hI:=hC.inf;clear hin hmi hr0 hC Hb1 hm0 hm1;go_upto_region 3 with(fail);refine uE (S:=fun W=>W.cell? ⟨gc,0,none⟩=some (.pointer (some ⟨gv,0,none⟩))∧W.cell? ⟨gx,0,none⟩=some (.int .i64 s.mth)∧W.cell? ⟨gx,1,none⟩=some (.int .i64 s.pc)) (fun _=>true) (by kernel_rfl) ⟨d0,x0,x1⟩ (fun HS=>?_);clear d0 x0 x1
   iterate 8 (refine uO rfl rfl HS (.inl ⟨rfl,fun W hW=>by obtain⟨h0,h1,h2⟩:=hW;go_simp;rfl⟩) ?_;simp only[pS])
   refine uP rfl rfl (fun K HJ=>?_);go_simp;refine(stack_any HPi.out.vlen HPi.out.vsz s.mth s.pc wc.drew hI.drew).mono ?_;rintro e w3 ⟨rfl,hI3,hg3'⟩;have hg3:=(gDrew wc (some gv)).trans hg3';obtain⟨h3,hF3⟩:=H2.out.asked hI3 hg3;have X3:=HX2.out.grown hg3 (fun e=>ne1.1 (Option.some.inj e));obtain⟨Ac,cc,Am,cm,An,cn,Ab,cb,As,cs,hC3⟩:=h3.chk;have C3:w3.cell? ⟨gc,0,none⟩=some (.pointer (some ⟨gv,0,none⟩))∧w3.cell? ⟨gx,0,none⟩=some (.int .i64 s.mth)∧w3.cell? ⟨gx,1,none⟩=some (.int .i64 s.pc):=⟨hC3.blk.cell 0,X3.at0,X3.at1⟩;refine HJ.out _ _ (fun _=>C3) ?_;clear HJ HS hI hg3' hI3 hg3;simp only[pS]
   iterate 5 (refine uO rfl rfl C3 (.inl ⟨rfl,fun W hW=>by obtain⟨h0,h1,h2⟩:=hW;go_simp;rfl⟩) ?_;simp only[pS])
   refine uD (by kernel_rfl) ?_ _;have H3:=eh h3;have HF3:=eh (HF2.out.trans hF3);have HX3:=eh X3;clear h3 hF3 X3 H2 HF2 HX2;cases hr:(stackF vs s.mth s.pc).2 with
   |false=>
    have Hr:=eh hr;clear hr hC3 C3;go_upto_region 4 with(fail);go_quiet (fail);rename Nat=>q2
    have hbq:=uC (Below.refl w3.heap.size w3) q2;have HR:=eh (HP.out false (w3.drewN q2) (by rw[HH.out,Hr.out];rfl) ⟨F,H3.out.below hbq⟩ (HF3.out.trans (Fr.of_below hbq (Nat.le_refl _))));go_wp2;exact HR.out
   |true=>
    have HB:=eh (show headB p vs f s=decide (s.locals.length=nloc (mthAt p mi)) by rw[HH.out,hr,Hmi.out,Int.toNat_natCast];rfl);obtain⟨bm,om,⟨Ak,ck⟩,hA,hbm,hm,-⟩:=hC3.prg.ms.at (show p.methods[mi]? =some (mthAt p mi) by simp[hml]);have m0:w3.cell? ⟨bm,om+mi*4,none⟩=some (.string (mthAt p mi).pa):=hm 0 _ rfl;have m1:w3.cell? ⟨bm,om+mi*4+1,none⟩=some (.string (mthAt p mi).lo):=hm 1 _ rfl;have m2:w3.cell? ⟨bm,om+mi*4+2,none⟩=some (.string (mthAt p mi).re):=hm 2 _ rfl;have m3:w3.cell? ⟨bm,om+mi*4+3,none⟩=some (.slice Ak (mthAt p mi).code.length ck):=hm 3 _ rfl;have x0:w3.cell? ⟨gx,0,none⟩=some (.int .i64 mi):=by rw[←Hmi.out];exact HX3.out.at0
    have x3:=HX3.out.at3;have d2:w3.cell? ⟨gc,2,none⟩=some (.slice Am p.methods.length cm):=hC3.blk.cell 2;have hloc:=HPi.out.loc mi hml;subst hA;clear hr hm hC3 C3;generalize mthAt p mi=mm at*;go_upto_region 4 with(fail);refine uE (S:=fun W=>W.cell? ⟨gx,3,none⟩=some (.slice A1 s.locals.length c1)∧W.cell? ⟨gc,2,none⟩=some (.slice (some ⟨bm,om,none⟩) p.methods.length cm)∧W.cell? ⟨gx,0,none⟩=some (.int .i64 mi)∧W.cell? ⟨bm,om+mi*4,none⟩=some (.string mm.pa)∧W.cell? ⟨bm,om+mi*4+1,none⟩=some (.string mm.lo)∧W.cell? ⟨bm,om+mi*4+2,none⟩=some (.string mm.re)∧W.cell? ⟨bm,om+mi*4+3,none⟩=some (.slice Ak mm.code.length ck)) (fun _=>true) (by kernel_rfl) ⟨x3,d2,x0,m0,m1,m2,m3⟩ (fun HS=>?_);have lx:gx<w3.heap.size:=HX3.out.lt;have lc:gc<w3.heap.size:=cell_gtS d2;have lb:bm<w3.heap.size:=cell_gtS m0;clear x3 d2 x0 m0 m1 m2 m3
    iterate 14 (refine uO rfl rfl HS (.inl ⟨rfl,fun W hW=>by obtain⟨h0,h1,h2,h3,h4,h5,h6⟩:=hW;go_simp;rfl⟩) ?_;simp only[pS])
    refine uP rfl rfl (fun K HJ=>?_);go_simp;refine(kinds_any Ak ck mm w3.drew (by unfold nloc at hloc;omega)).mono ?_;rintro e w4 ⟨rfl,hb4'⟩;have hb4:Below w3.heap.size w3 w4:=⟨hb4'.os,hb4'.tape,hb4'.output,hb4'.size,hb4'.block⟩;have C4:=And.intro ((hb4.cell (p:=⟨gx,3,none⟩) lx).trans HS.1) (And.intro ((hb4.cell (p:=⟨gc,2,none⟩) lc).trans HS.2.1) (And.intro ((hb4.cell (p:=⟨gx,0,none⟩) lx).trans HS.2.2.1) (And.intro ((hb4.cell (p:=⟨bm,om+mi*4,none⟩) lb).trans HS.2.2.2.1) (And.intro ((hb4.cell (p:=⟨bm,om+mi*4+1,none⟩) lb).trans HS.2.2.2.2.1) (And.intro ((hb4.cell (p:=⟨bm,om+mi*4+2,none⟩) lb).trans HS.2.2.2.2.2.1) ((hb4.cell (p:=⟨bm,om+mi*4+3,none⟩) lb).trans HS.2.2.2.2.2.2))))));refine HJ.out _ _ (fun _=>C4) ?_;clear HJ HS hb4';simp only[pS]
    iterate 4 (refine uO rfl rfl C4 (.inl ⟨rfl,fun W hW=>by obtain⟨h0,h1,h2,h3,h4,h5,h6⟩:=hW;go_simp;rfl⟩) ?_;simp only[pS])
    refine uD (by kernel_rfl) ?_ _;have e9:((s.locals.length:Int)==(mm.pa.size:Int)+mm.lo.size)=decide (s.locals.length=nloc mm):=by rw[Bool.eq_iff_iff];simp[nloc];omega
    have HR:=eh (HP.out _ w4 HB.out ⟨F,H3.out.below hb4⟩ (HF3.out.trans (Fr.of_below hb4 (Nat.le_refl _))));rw[←e9]at HR;go_wp2;exact HR.out
abbrev stAt(f:Fn)(i:Nat):Ste:=f.states.getD i default
def headsB(p:Prg)(vs:List Vs)(f:Fn):Nat→Nat→Bool
 |0,_=>false
 |k+1,i=>if(stAt f i).up< -1∨(i:Int)≤(stAt f i).up∨headB p vs f (stAt f i)=false then false else if(stAt f i).up<0 then true else headsB p vs f k (stAt f i).up.toNat
theorem headsB_fuel(p:Prg)(vs:List Vs)(f:Fn)(i:Nat):∀k,i<k→headsB p vs f k i=headsB p vs f (i+1) i:=by
 induction i using Nat.strongRecOn with
 |_ i ih=>
  intro k hk;obtain⟨k,rfl⟩:∃j,k=j+1:=⟨k-1,by omega⟩;unfold headsB
  by_cases h1:(stAt f i).up< -1∨(i:Int)≤(stAt f i).up∨headB p vs f (stAt f i)=false
  ·rw[if_pos h1,if_pos h1]
  ·rw[if_neg h1,if_neg h1]
   by_cases h2:(stAt f i).up<0
   ·rw[if_pos h2,if_pos h2]
   ·rw[if_neg h2,if_neg h2,ih _ (by omega) k (by omega),ih _ (by omega) i (by omega)]
theorem heads_any{w:World}{S:Nat→Prop}{gc gv gl B0:Nat}{p:Prg}{vs:List Vs}{f:Fn}{bv qv tv dv:Value}(h:Sts w S gc gv gl B0 p vs f bv qv tv dv)(hp:PIn p vs){i:Nat}(hi:i<f.states.length):
 Calls Tryz.prog 52 #[.pointer (some ⟨gc,0,none⟩),.int .i64 i] w (AnsPost w S gc gv gl B0 p vs f bv qv tv dv (headsB p vs f (i+1) i)):=by
 have HP:=eh (fun b w' (h0:headsB p vs f (i+1) i=b) (h1:Sts w' S gc gv gl B0 p vs f bv qv tv dv) (h2:Fr B0 gv gl w w')=>(show AnsPost w S gc gv gl B0 p vs f bv qv tv dv (headsB p vs f (i+1) i) (.returned (.bool b)) w' from⟨by rw[h0],h1,h2⟩));have HPi:=eh hp;have H:=eh h;generalize AnsPost w S gc gv gl B0 p vs f bv qv tv dv (headsB p vs f (i+1) i)=Post at*;clear h hp;go_enter Tryz.func52,Tryz.ntmps52;go_wp2;go_loopw [1] (fun iv wr=>∃j:Nat,iv=.int .i64 j∧j<f.states.length∧Hid (headsB p vs f (i+1) i=headsB p vs f (j+1) j)∧Hid (Sts wr S gc gv gl B0 p vs f bv qv tv dv)∧Hid (Fr B0 gv gl w wr)) (fun iv _=>(intOf iv).toNat)
 case atStart=>exact⟨i,rfl,hi,eh rfl,H,eh (Fr.refl _ _ _ _)⟩
 case round=>
  obtain⟨j,rfl,hj,HE,HS,HF⟩:=hrel;obtain⟨F,hSt⟩:=HS.out;obtain⟨Ac,cc,Am,cm,An,cn,Ab,cb,As,cs,hC⟩:=hSt.chk;have d7:wr.cell? ⟨gc,7,none⟩=some (.slice As f.states.length cs):=hC.blk.cell 7;have lC:=hC.blk.lt;obtain⟨bn,on_,A1,c1,A2,c2,A3,c3,hA,hSn,v0,v1,v2,v3,v4,v5,-⟩:=rd_ste hC.fn.states hj;subst hA;have lbn:=(hC.lt bn hSn).1;have i1:(j:Int)<f.states.length:=by omega
  have HU:=eh (show headsB p vs f (j+1) j=if(f.states.getD j default).up< -1∨(j:Int)≤(f.states.getD j default).up∨headB p vs f (f.states.getD j default)=false then false else if(f.states.getD j default).up<0 then true else headsB p vs f j (f.states.getD j default).up.toNat from rfl);have HFu:=eh (fun(u:Nat) (hu:u<j)=>headsB_fuel p vs f u j hu);generalize f.states.getD j default=s at*;have bX:=Blk.new wr 47 (stc s A1 A2 A3 c1 c2 c3);have hb1:=(Below.refl wr.heap.size wr).alloc (Nat.le_refl _) (.cells (stc s A1 A2 A3 c1 c2 c3) 47);have H1:=eh (HS.out.below hb1);have HF1:=eh (HF.out.trans (Fr.of_below hb1 (Nat.le_refl _)));have ne1:wr.heap.size≠gv∧wr.heap.size≠gl:=by have:=hSt.low;omega
  clear hSt hC hb1;go_upto_region 2 with(fail);obtain⟨gx,hgx⟩:∃gx,gx=wr.heap.size:=⟨_,rfl⟩;rw[←hgx]at bX ne1⊢;clear hgx v0 v1 v2 v3 v4 v5 d7 lbn lC i1 HS HF;generalize wr.alloc (.cells (stc s A1 A2 A3 c1 c2 c3) 47)=w1 at*;have x0:=bX.at0;have x1:=bX.at1;have x2:=bX.at2;have x3:=bX.at3;have x4:w1.cell? ⟨gx,4,none⟩=some (.slice A2 s.stack.length c2):=bX.cell 4;have x5:w1.cell? ⟨gx,5,none⟩=some (.slice A3 s.virts.length c3):=bX.cell 5;have lX:=bX.lt;have HX:=eh bX;clear bX
  by_cases u1:s.up< -1
  ·have HR:=eh (HP.out false w1 (by rw[HE.out,HU.out,if_pos (.inl u1)]) H1.out HF1.out);go_wp2;exact HR.out
  ·by_cases u2:(j:Int)≤s.up
   ·have HR:=eh (HP.out false w1 (by rw[HE.out,HU.out,if_pos (.inr (.inl u2))]) H1.out HF1.out);go_wp2;exact HR.out
   ·have Hh:=eh (head_any2 H1.out HPi.out s A1 A2 A3 c1 c2 c3);obtain⟨r,hr⟩:∃r,headB p vs f s=r:=⟨_,rfl⟩;rw[hr]at Hh HU;clear hr;have g1:decide (s.up< -1)=false:=decide_eq_false u1;have g2:decide ((j:Int)≤s.up)=false:=decide_eq_false u2;cases r with
    |false=>
     have HU2:=eh (show headsB p vs f (j+1) j=false by rw[HU.out,if_pos (.inr (.inr rfl))]);go_wp2_with (go_at_call 86;refine Hh.out.mono ?_;rintro e w2 ⟨rfl,hs2,hf2⟩;have X2:=HX.out.fr hf2 (by decide) ne1.1 ne1.2;have y2:=X2.at2;have ly:=X2.lt);exact HP.out false w2 (by rw[HE.out,HU2.out]) hs2 (HF1.out.trans hf2)
    |true=>
     have hno:¬(s.up< -1∨(j:Int)≤s.up∨true=false):=fun q=>by
      rcases q with q|q|q
      ·exact u1 q
      ·exact u2 q
      ·cases q
     by_cases u3:s.up<0
     ·have HU2:=eh (show headsB p vs f (j+1) j=true by rw[HU.out,if_neg hno,if_pos u3]);go_wp2_with (go_at_call 86;refine Hh.out.mono ?_;rintro e w2 ⟨rfl,hs2,hf2⟩;have X2:=HX.out.fr hf2 (by decide) ne1.1 ne1.2;have y2:=X2.at2;have ly:=X2.lt);exact HP.out true w2 (by rw[HE.out,HU2.out]) hs2 (HF1.out.trans hf2)
     ·obtain⟨u,hu⟩:∃u:Nat,s.up=u:=⟨s.up.toNat,by omega⟩;have huj:u<j:=by omega
      have HU2:=eh (show headsB p vs f (j+1) j=headsB p vs f (u+1) u by rw[HU.out,if_neg hno,if_neg u3,hu,Int.toNat_natCast,HFu.out u huj]);have Hu:=eh hu;clear hno hu;go_wp2_with (go_at_call 86;refine Hh.out.mono ?_;rintro e w2 ⟨rfl,hs2,hf2⟩;have X2:=HX.out.fr hf2 (by decide) ne1.1 ne1.2;have y2:=X2.at2;have ly:=X2.lt);go_roundw
      case rel=>exact⟨u,by rw[Hu.out],by omega,eh (by rw[HE.out,HU2.out]),eh hs2,eh (HF1.out.trans hf2)⟩
      case measure=>simp[intOf];have:=Hu.out;omega
theorem seen_at{vs:List Vs}{mi n pc:Nat}(h:pc<n):(seenL vs mi n).getD pc false=(stackF vs mi pc).2:=by simp[seenL,h]
noncomputable def lvOf(m:Mth)(seen:List Bool):List (Option Nat):=open Classical in if h:∃L,LvOk m seen L then Classical.choose h else[]
theorem lvOf_eq{m:Mth}{seen:List Bool}{L:List (Option Nat)}(h:LvOk m seen L):lvOf m seen=L:=by
 unfold lvOf;rw[dif_pos ⟨L,h⟩];exact(Classical.choose_spec (⟨L,h⟩:∃L,LvOk m seen L)).uniq h
noncomputable def lvP(p:Prg)(vs:List Vs)(i:Nat):List (Option Nat):=lvOf (mthAt p i) (seenL vs i (mthAt p i).code.length)
noncomputable def wantF(p:Prg)(vs:List Vs)(mi pc:Nat)(below:Int):ByteArray×List Nat:=
 if 0≤below then((stackF vs mi pc).1.extract 0 ((stackF vs mi pc).1.size-(mthAt p below.toNat).pa.size),bl (behF (mthAt p mi) (lvP p vs mi) pc))
 else((stackF vs mi pc).1,bl (lvAt (lvP p vs mi) pc))
def callOk(p:Prg)(mi pc:Nat)(below:Int):Prop:=0≤below→((mthAt p mi).code.getD pc default).op=32∧((mthAt p mi).code.getD pc default).a=below
structure SlotsOk(p:Prg)(vs:List Vs)(f:Fn)(s:Ste)(mi pc:Nat)(below:Int)(n:Nat):Prop where
 call:callOk p mi pc below
 len:s.stack.length=(wantF p vs mi pc below).1.size
 loc:∀k,k<s.locals.length→if k∈(wantF p vs mi pc below).2 then slotB f (s.locals.getD k 0) (((mthAt p mi).pa++(mthAt p mi).lo).extract k (k+1)) n=true else s.locals.getD k 0= -1
 stk:∀k,k<s.stack.length→slotB f (s.stack.getD k 0) ((wantF p vs mi pc below).1.extract k (k+1)) n=true
structure SlIn(w:World)(S:Nat→Prop)(p:Prg)(vs:List Vs)(f:Fn)(s:Ste)(A1 A2 A3:Option Addr)(mi pc:Nat)(below:Int):Prop where
 emth:s.mth=mi
 epc:s.pc=pc
 hmi:mi<p.methods.length
 hpc:pc<(mthAt p mi).code.length
 see:(stackF vs mi pc).2=true
 len:s.locals.length=nloc (mthAt p mi)
 loc:RdS w S 1 A1 s.locals.length (ints s.locals)
 stk:RdS w S 1 A2 s.stack.length (ints s.stack)
 lo:(∀x∈s.locals,-9223372036854775808≤x)∧∀x∈s.stack,-9223372036854775808≤x
 slen:s.stack.length≤1000000∧(stackF vs mi pc).1.size≤1000
 bel:0≤below→below<p.methods.length∧(callOk p mi pc below→(mthAt p below.toNat).pa.size≤(stackF vs mi pc).1.size)
open Classical in
theorem slots_any{w:World}{S:Nat→Prop}{gc gv gl B0:Nat}{p:Prg}{vs:List Vs}{f:Fn}{bv qv tv dv:Value}(h:Sts w S gc gv gl B0 p vs f bv qv tv dv)(hp:PIn p vs){s:Ste}{A1 A2 A3:Option Addr}{mi pc:Nat}{below:Int}(hs:SlIn w S p vs f s A1 A2 A3 mi pc below)(c1 c2 c3 n:Nat):
 Calls Tryz.prog 87 #[.pointer (some ⟨gc,0,none⟩),.agg (stc s A1 A2 A3 c1 c2 c3),.int .i64 below,.int .i64 n] w (AnsPost w S gc gv gl B0 p vs f bv qv tv dv (decide (SlotsOk p vs f s mi pc below n))):=by
 have HPt:=eh (fun w' (h0:SlotsOk p vs f s mi pc below n) (h1:Sts w' S gc gv gl B0 p vs f bv qv tv dv) (h2:Fr B0 gv gl w w')=>(show AnsPost w S gc gv gl B0 p vs f bv qv tv dv (decide (SlotsOk p vs f s mi pc below n)) (.returned (.bool true)) w' from⟨by rw[decide_eq_true h0],h1,h2⟩));have HPf:=eh (fun w' (h0:¬SlotsOk p vs f s mi pc below n) (h1:Sts w' S gc gv gl B0 p vs f bv qv tv dv) (h2:Fr B0 gv gl w w')=>(show AnsPost w S gc gv gl B0 p vs f bv qv tv dv (decide (SlotsOk p vs f s mi pc below n)) (.returned (.bool false)) w' from⟨by rw[decide_eq_false h0],h1,h2⟩));have HPi:=eh hp;have HI:=eh hs;obtain⟨F,h⟩:=h;have hb1:=(Below.refl w.heap.size w).alloc (Nat.le_refl _) (.cells (stc s A1 A2 A3 c1 c2 c3) 47);have bX:=Blk.new w 47 (stc s A1 A2 A3 c1 c2 c3);have h1:=h.below hb1;have hF1:Fr B0 gv gl w _:=Fr.of_below hb1 (Nat.le_refl _);have ne1:w.heap.size≠gv∧w.heap.size≠gl:=by have:=h.low;omega
 have hlow:=h.low;clear h hp hs;generalize AnsPost w S gc gv gl B0 p vs f bv qv tv dv (decide (SlotsOk p vs f s mi pc below n))=Post at*;go_enter Tryz.func87,Tryz.ntmps87;go_upto_region 1 with(fail);obtain⟨gx,hgx⟩:∃gx,gx=w.heap.size:=⟨_,rfl⟩;rw[←hgx]at bX ne1⊢;clear hgx hb1;generalize w.alloc (.cells (stc s A1 A2 A3 c1 c2 c3) 47)=w1 at*;obtain⟨Ac,cc,Am,cm,An,cn,Ab,cb,As,cs,hC⟩:=h1.chk;have HX:=eh bX;have H1:=eh h1;have HF1:=eh hF1;have hI1:=hC.inf;refine uE (S:=fun W=>W.cell? ⟨gc,0,none⟩=some (.pointer (some ⟨gv,0,none⟩))∧W.cell? ⟨gx,0,none⟩=some (.int .i64 mi)∧W.cell? ⟨gx,1,none⟩=some (.int .i64 pc)) (fun _=>true) (by kernel_rfl) ⟨hC.blk.cell 0,by rw[←HI.out.emth];exact bX.at0,by rw[←HI.out.epc];exact bX.at1⟩ (fun HS=>?_);clear bX h1 hF1 hC
 iterate 8 (refine uO rfl rfl HS (.inl ⟨rfl,fun W hW=>by obtain⟨h0,h1,h2⟩:=hW;go_simp;rfl⟩) ?_;simp only[pS])
 refine uP rfl rfl (fun K HJ=>?_);go_simp;refine(stack_any HPi.out.vlen HPi.out.vsz mi pc w1.drew hI1.drew).mono ?_;rintro e w2 ⟨rfl,hI2,hg2'⟩;have hg2:=(gDrew w1 (some gv)).trans hg2';obtain⟨h2,hF2⟩:=H1.out.asked hI2 hg2;have X2:=HX.out.grown hg2 (fun e=>ne1.1 (Option.some.inj e));obtain⟨Ac,cc,Am,cm,An,cn,Ab,cb,As,cs,hC2⟩:=h2.chk;have C2:w2.cell? ⟨gc,0,none⟩=some (.pointer (some ⟨gv,0,none⟩))∧w2.cell? ⟨gx,0,none⟩=some (.int .i64 mi)∧w2.cell? ⟨gx,1,none⟩=some (.int .i64 pc):=⟨hC2.blk.cell 0,by rw[←HI.out.emth];exact X2.at0,by rw[←HI.out.epc];exact X2.at1⟩;refine HJ.out _ _ (fun _=>C2) ?_;clear HJ HS hI1 hg2' hI2 hg2 hC2;simp only[pS]
 iterate 5 (refine uO rfl rfl C2 (.inl ⟨rfl,fun W hW=>by obtain⟨h0,h1,h2⟩:=hW;go_simp;rfl⟩) ?_;simp only[pS])
 refine uD (by kernel_rfl) ?_ _;have HF2:=eh (HF1.out.trans hF2);have HX2:=eh X2;have x0:=C2.2.1;have lx:=X2.lt;have Hcl:=eh (chkLive_any h2 HPi.out HI.out.hmi);have nex:=ne1;clear h2 hF2 X2 C2 H1 HF1 HX ne1;go_wp2_with fail;refine Hcl.out.mono ?_;rintro e w3 ⟨g,F3,rfl,h3,hFg,hF3⟩;have X3:=HX2.out.fr hF3 (by decide) nex.1 nex.2;obtain⟨Sg,hL3,hSg⟩:=h3.lvin HPi.out hFg;have Hlo:=eh (locals_any hL3 HI.out.hpc);have x1:w3.cell? ⟨gx,1,none⟩=some (.int .i64 pc):=by rw[←HI.out.epc];exact X3.at1
 have lx3:=X3.lt;have HX3:=eh X3;have HF3:=eh (HF2.out.trans hF3);have HSg:=eh hSg;have H3:=eh h3;have HFg:=eh hFg;clear h3 hFg hF3 X3 hL3 hSg Hcl x0 lx HX2 HF2;go_wp2_with fail;refine Hlo.out.mono ?_;rintro e w4 ⟨v,L,gs,rfl,ho,hO⟩;obtain⟨h4,hF4⟩:=H3.out.out HFg.out HSg.out hO;have hL:lvP p vs mi=L:=by
  obtain⟨-,-,-,-,gw,Ak,ck,ga,cl,hM,hOk⟩:=hO;exact lvOf_eq hOk
 obtain⟨A0,k0,rfl⟩:=own_slice ho;obtain⟨A0',k0',e0,hrd⟩:=Rd.of_own ho;cases e0;have H4:=eh h4;have HF4:=eh (HF3.out.trans hF4);have HX4:=eh (HX3.out.fr hF4 (by decide) nex.1 nex.2);have HR4:=eh hrd;have HL:=eh hL;have Hg4:=eh (show F3 mi=some g from HFg.out);have hfx:=HF4.out;clear h4 hF4 hO ho hrd hL HX3 HF3 H3 HSg HFg x1 lx3;go_upto_if 40 with(fail);go_cut [9,12]from 9 to 82 (fun v9 v12 wx=>∃A k m,v9=.string (wantF p vs mi pc below).1∧v12=.slice A m k∧Hid (callOk p mi pc below)∧Hid (Rd wx wx.heap.size 1 A m (bi (wantF p vs mi pc below).2))∧Hid (Sts wx S gc gv gl B0 p vs f bv qv tv dv)∧Hid (Fr B0 gv gl w wx)∧Hid (Blk wx gx 47 (stc s A1 A2 A3 c1 c2 c3)))
 case first=>
  by_cases hb:0≤below
  ·obtain⟨bn,hbn⟩:∃bn:Nat,below=bn:=⟨below.toNat,by omega⟩;have hbl:=(HI.out.bel hb).1;have hcs:=(HI.out.bel hb).2;subst hbn;rw[Int.toNat_natCast]at hcs;have hbm:bn<p.methods.length:=by omega
   have hmi:=HI.out.hmi;have hpc:=HI.out.hpc;obtain⟨Ac,cc,Am,cm,An,cn,Ab,cb,As,cs,hC4⟩:=H4.out.chk;obtain⟨bm,om,⟨Ak,ck⟩,hA,hSm,hm,hcd⟩:=hC4.prg.ms.at (show p.methods[mi]? =some (mthAt p mi) by simp[hmi]);have m3:w4.cell? ⟨bm,om+mi*4+3,none⟩=some (.slice Ak (mthAt p mi).code.length ck):=hm 3 _ rfl;obtain⟨bk,ok,hAk,hbk,i0,i1,i2,i3⟩:=ins_at (Rd.more (RdS.rd (B:=w4.heap.size) hcd (fun b hb=>(hC4.lt b hb).1)) (Nat.le_refl _)) hpc;subst hA hAk;have d2:w4.cell? ⟨gc,2,none⟩=some (.slice (some ⟨bm,om,none⟩) p.methods.length cm):=hC4.blk.cell 2;have x0:w4.cell? ⟨gx,0,none⟩=some (.int .i64 mi):=by rw[←HI.out.emth];exact HX4.out.at0
   have x1:w4.cell? ⟨gx,1,none⟩=some (.int .i64 pc):=by rw[←HI.out.epc];exact HX4.out.at1
   have HCa:=eh (show callOk p mi pc bn↔((mthAt p mi).code.getD pc default).op=32∧((mthAt p mi).code.getD pc default).a=bn from⟨fun q=>q (by omega),fun q _=>q⟩);have Hcs:=eh hcs;have hsz:=HI.out.slen.2;clear hcs hm hcd;generalize(mthAt p mi).code.getD pc default=x at*;generalize(mthAt p mi).code.length=nc at*;go_upto_region 5 with(fail);refine uE (S:=fun W=>W.cell? ⟨gc,2,none⟩=some (.slice (some ⟨bm,om,none⟩) p.methods.length cm)∧W.cell? ⟨gx,0,none⟩=some (.int .i64 mi)∧W.cell? ⟨gx,1,none⟩=some (.int .i64 pc)∧W.cell? ⟨bm,om+mi*4+3,none⟩=some (.slice (some ⟨bk,ok,none⟩) nc ck)∧W.cell? ⟨bk,ok+pc*4,none⟩=some (.int .i64 x.op)∧W.cell? ⟨bk,ok+pc*4+1,none⟩=some (.int .i64 x.a)∧W.cell? ⟨bk,ok+pc*4+2,none⟩=some (.int .i64 x.b)∧W.cell? ⟨bk,ok+pc*4+3,none⟩=some (.int .i64 x.n)) (fun q=>decide (q<15)) (by kernel_rfl) ⟨d2,x0,x1,m3,i0,i1,i2,i3⟩ (fun HS=>?_);have hSa:=fun O=>And.intro ((World.cell?_alloc_lt w4 O _ (World.block_lt_of_cell? w4 _ d2)).trans d2) (And.intro ((World.cell?_alloc_lt w4 O _ (World.block_lt_of_cell? w4 _ x0)).trans x0) (And.intro ((World.cell?_alloc_lt w4 O _ (World.block_lt_of_cell? w4 _ x1)).trans x1) (And.intro ((World.cell?_alloc_lt w4 O _ (World.block_lt_of_cell? w4 _ m3)).trans m3) (And.intro ((World.cell?_alloc_lt w4 O _ (World.block_lt_of_cell? w4 _ i0)).trans i0) (And.intro ((World.cell?_alloc_lt w4 O _ (World.block_lt_of_cell? w4 _ i1)).trans i1) (And.intro ((World.cell?_alloc_lt w4 O _ (World.block_lt_of_cell? w4 _ i2)).trans i2) ((World.cell?_alloc_lt w4 O _ (World.block_lt_of_cell? w4 _ i3)).trans i3)))))))
   have HSa:=eh hSa;clear d2 x0 x1 m3 i0 i1 i2 i3 hSa
   iterate 14 (refine uO rfl rfl HS (.inl ⟨rfl,fun W hW=>by obtain⟨h0,h1,h2,h3,h4,h5,h6,h7⟩:=hW;go_simp;rfl⟩) ?_;simp only[pS])
   refine uP rfl rfl (fun K HK=>?_);go_simp;refine HK.out _ _ (fun _=>HSa.out _) ?_;clear HK;simp only[pS];refine uP rfl rfl (fun K HK=>?_);go_simp;refine HK.out _ _ (fun h=>by cases h) ?_;clear HK;simp only[pS];clear HS;refine uD (by kernel_rfl) ?_ _;obtain⟨w5,hw5,hb5,bI5⟩:∃w5,w5=(w4.alloc (.cells #[.int .i64 x.op,.int .i64 x.a,.int .i64 x.b,.int .i64 x.n] 24)).drew∧Below w4.heap.size w4 w5∧Blk w5 w4.heap.size 24 #[.int .i64 x.op,.int .i64 x.a,.int .i64 x.b,.int .i64 x.n]:=⟨_,rfl,((Below.refl _ w4).alloc (Nat.le_refl _) _).drew,Blk.new w4 _ _⟩;rw[←hw5];have H5:=eh (H4.out.below hb5);have HF5:=eh (HF4.out.trans (Fr.of_below hb5 (Nat.le_refl _)));have HX5:=eh (HX4.out.below hb5 HX4.out.lt);have y0:=bI5.at0;have y1:=bI5.at1;have ly:=bI5.lt;clear hw5 bI5 hb5 hfx;obtain⟨gy,hgy⟩:∃gy,gy=w4.heap.size:=⟨_,rfl⟩;rw[←hgy]at y0 y1 ly⊢;clear hgy
   by_cases ho:x.op=32
   ·by_cases ha:x.a=bn
    ·have g1:(x.op != 32)=false:=by simp[ho]
     have g2:(x.a != (bn:Int))=false:=by simp[ha]
     have hca:callOk p mi pc bn:=HCa.out.2 ⟨ho,ha⟩;have hps:=Hcs.out hca;have Hca:=eh hca;clear ho ha hca;obtain⟨Ac5,cc5,Am5,cm5,An5,cn5,Ab5,cb5,As5,cs5,hC5⟩:=H5.out.chk;obtain⟨bm5,om5,⟨Ak5,ck5⟩,hA5,hSm5,hm5,-⟩:=hC5.prg.ms.at (show p.methods[bn]? =some (mthAt p bn) by simp[hbm]);have m0:w5.cell? ⟨bm5,om5+bn*4,none⟩=some (.string (mthAt p bn).pa):=hm5 0 _ rfl;subst hA5;have d2:w5.cell? ⟨gc,2,none⟩=some (.slice (some ⟨bm5,om5,none⟩) p.methods.length cm5):=hC5.blk.cell 2;have x1:w5.cell? ⟨gx,1,none⟩=some (.int .i64 pc):=by rw[←HI.out.epc];exact HX5.out.at1
     have lx:=HX5.out.lt;have lc:=hC5.blk.lt;have lb:=(hC5.lt bm5 hSm5).1;obtain⟨Sg5,hL5,hSg5⟩:=H5.out.lvin HPi.out Hg4.out;have Hbe:=eh (behindL_any hL5 HI.out.hpc (by rw[seen_at HI.out.hpc];exact HI.out.see));have HSg5:=eh hSg5;have hW:wantF p vs mi pc bn=((stackF vs mi pc).1.extract 0 ((stackF vs mi pc).1.size-(mthAt p bn).pa.size),bl (behF (mthAt p mi) L pc)):=by unfold wantF;rw[if_pos (by omega),HL.out];rfl
     have HW:=eh hW;clear hW hm5 hC5 hL5 hSg5;generalize(mthAt p bn).pa=pa at*;generalize(stackF vs mi pc).1=stk at*;have q1:(0:Int)≤(stk.size:Int)-pa.size:=by omega
     go_wp2_with fail;refine Hbe.out.mono ?_;rintro e w6 ⟨v6,L6,gs6,rfl,ho6,hO6⟩;obtain⟨h6,hF6⟩:=H5.out.out Hg4.out HSg5.out hO6;have hL6:L6=L:=by
      obtain⟨-,-,-,-,gw,Ak,ck,ga,cl,hM,hOk⟩:=hO6;rw[←HL.out];exact(lvOf_eq hOk).symm
     subst hL6;obtain⟨A6,k6,rfl⟩:=own_slice ho6;obtain⟨A6',k6',e6,hrd6⟩:=Rd.of_own ho6;cases e6;have H6:=eh h6;have HF6:=eh (HF5.out.trans hF6);have HX6:=eh (HX5.out.fr hF6 (by decide) nex.1 nex.2);have HR6:=eh hrd6;clear h6 hF6 hO6 ho6 hrd6 Hbe;generalize bl (behF (mthAt p mi) L6 pc)=bb at*;go_wp2;go_meet;exact⟨A6,k6,_,by rw[HW.out],rfl,Hca,by rw[HW.out];exact HR6,eh ⟨_,H6.out⟩,HF6,HX6⟩
    ·have HR:=eh (HPf.out w5 (fun q=>ha (HCa.out.1 q.call).2) ⟨_,H5.out⟩ HF5.out);rw[ho]at y0;clear ho;go_wp2;exact HR.out
   ·have HR:=eh (HPf.out w5 (fun q=>ho (HCa.out.1 q.call).1) ⟨_,H5.out⟩ HF5.out);go_wp2;exact HR.out
  ·have HW:=eh (show wantF p vs mi pc below=((stackF vs mi pc).1,bl (lvAt L pc)) by unfold wantF;rw[if_neg hb,HL.out]);have Hca:=eh (show callOk p mi pc below from fun q=>absurd q hb);clear hfx;go_wp2;go_meet;exact⟨A0,k0,_,by rw[HW.out],rfl,Hca,by rw[HW.out];exact HR4,eh ⟨_,H4.out⟩,HF4,HX4⟩
 case rest=>
  obtain⟨A,k,m,rfl,rfl,Hca,HR,HS',HF,HX⟩:=hcut;clear H4 HF4 HX4 HR4 hfx Hlo;have hin:SlotsOk p vs f s mi pc below n↔s.stack.length=(wantF p vs mi pc below).1.size∧(∀k,k<s.locals.length→if k∈(wantF p vs mi pc below).2 then slotB f (s.locals.getD k 0) (((mthAt p mi).pa++(mthAt p mi).lo).extract k (k+1)) n=true else s.locals.getD k 0= -1)∧∀k,k<s.stack.length→slotB f (s.stack.getD k 0) ((wantF p vs mi pc below).1.extract k (k+1)) n=true:=
   ⟨fun q=>⟨q.len,q.loc,q.stk⟩,fun q=>⟨Hca.out,q.1,q.2.1,q.2.2⟩⟩
  have hw2:(wantF p vs mi pc below).2.length≤12:=by unfold wantF;split<;>exact bl_len _
  obtain⟨W,hW⟩:∃W,W=wantF p vs mi pc below:=⟨_,rfl⟩;rw[←hW]at hin HR hw2⊢;clear hW Hca;obtain⟨W1,W2⟩:=W;simp only at hin HR hw2⊢;have Hin:=eh hin;obtain⟨F4,h4⟩:=HS'.out;obtain⟨Ac,cc,Am,cm,An,cn,Ab,cb,As,cs,hC⟩:=h4.chk;have hkept:Kept S w wc:=fun q hq=>World.cell?_of_block (HF.out.low hlow.2.2.2.2.2.1 (hlow.2.2.2.2.2.2.2.2 _ hq).1 (hC.lt _ hq).2.2 (hlow.2.2.2.2.2.2.2.2 _ hq).2)
  have HLo:=eh (HI.out.loc.keep hkept);have HSk:=eh (HI.out.stk.keep hkept);have hlb:∀b,S b→b<wc.heap.size:=fun b q=>(hC.lt b q).1
  have HLb:=eh hlb;have x4:wc.cell? ⟨gx,4,none⟩=some (.slice A2 s.stack.length c2):=HX.out.cell 4;have lx:=HX.out.lt;have hmi:=HI.out.hmi;obtain⟨bm,om,⟨Ak,ck⟩,hA,hSm,hm,-⟩:=hC.prg.ms.at (show p.methods[mi]? =some (mthAt p mi) by simp[hmi]);have m0:wc.cell? ⟨bm,om+mi*4,none⟩=some (.string (mthAt p mi).pa):=hm 0 _ rfl;have m1:wc.cell? ⟨bm,om+mi*4+1,none⟩=some (.string (mthAt p mi).lo):=hm 1 _ rfl;have m2:wc.cell? ⟨bm,om+mi*4+2,none⟩=some (.string (mthAt p mi).re):=hm 2 _ rfl;have m3:wc.cell? ⟨bm,om+mi*4+3,none⟩=some (.slice Ak (mthAt p mi).code.length ck):=hm 3 _ rfl;subst hA;have d2:wc.cell? ⟨gc,2,none⟩=some (.slice (some ⟨bm,om,none⟩) p.methods.length cm):=hC.blk.cell 2;have x0:wc.cell? ⟨gx,0,none⟩=some (.int .i64 mi):=by rw[←HI.out.emth];exact HX.out.at0
  have lc:=hC.blk.lt;have lb:=hlb bm hSm;have hloc:=HPi.out.loc mi hmi;have hll:=HI.out.len;have hsl:=HI.out.slen.1;clear h4 hC hkept hm hin;generalize hmm:mthAt p mi=mm at*;clear hmm
  by_cases hle:s.stack.length=W1.size
  ·have g1:((s.stack.length:Int) != (W1.size:Int))=false:=by simp;omega
   have Hle:=eh hle;clear hle;go_upto_region 12 with(fail);clear g1 x4;refine uE (S:=fun W=>W.cell? ⟨gc,2,none⟩=some (.slice (some ⟨bm,om,none⟩) p.methods.length cm)∧W.cell? ⟨gx,0,none⟩=some (.int .i64 mi)∧W.cell? ⟨bm,om+mi*4,none⟩=some (.string mm.pa)∧W.cell? ⟨bm,om+mi*4+1,none⟩=some (.string mm.lo)∧W.cell? ⟨bm,om+mi*4+2,none⟩=some (.string mm.re)∧W.cell? ⟨bm,om+mi*4+3,none⟩=some (.slice Ak mm.code.length ck)) (fun _=>true) (by kernel_rfl) ⟨d2,x0,m0,m1,m2,m3⟩ (fun HS=>?_);clear d2 x0 m0 m1 m2 m3
   iterate 9 (refine uO rfl rfl HS (.inl ⟨rfl,fun W hW=>by obtain⟨h0,h1,h2,h3,h4,h5⟩:=hW;go_simp;rfl⟩) ?_;simp only[pS])
   refine uP rfl rfl (fun K HJ=>?_);go_simp;refine(kinds_any Ak ck mm wc.drew (by unfold nloc at hloc;omega)).mono ?_;rintro e w6 ⟨rfl,hb6'⟩;have hb6:Below wc.heap.size wc w6:=⟨hb6'.os,hb6'.tape,hb6'.output,hb6'.size,hb6'.block⟩;have C6:=And.intro ((hb6.cell (p:=⟨gc,2,none⟩) lc).trans HS.1) (And.intro ((hb6.cell (p:=⟨gx,0,none⟩) lx).trans HS.2.1) (And.intro ((hb6.cell (p:=⟨bm,om+mi*4,none⟩) lb).trans HS.2.2.1) (And.intro ((hb6.cell (p:=⟨bm,om+mi*4+1,none⟩) lb).trans HS.2.2.2.1) (And.intro ((hb6.cell (p:=⟨bm,om+mi*4+2,none⟩) lb).trans HS.2.2.2.2.1) ((hb6.cell (p:=⟨bm,om+mi*4+3,none⟩) lb).trans HS.2.2.2.2.2)))));refine HJ.out _ _ (fun _=>C6) ?_;clear HJ HS hb6';simp only[pS];refine uO rfl rfl C6 (.inl ⟨rfl,fun W hW=>by obtain⟨h0,h1,h2,h3,h4,h5⟩:=hW;go_simp;rfl⟩) ?_;simp only[pS];refine uD (by kernel_rfl) ?_ _;have X6:=HX.out.below hb6 lx;have x3:=X6.at3;have lx6:=X6.lt;have Lo6:=HLo.out.keep (Kept.of_below hb6 HLb.out);have Sk6:=HSk.out.keep (Kept.of_below hb6 HLb.out);have hR6:=HR.out.below hb6 (Nat.le_refl _);have S6:=HS'.out.below hb6;have HLo6:=eh Lo6;have HSk6:=eh Sk6;have HS6:=eh S6;have HF6:=eh (HF.out.trans (Fr.of_below hb6 (Nat.le_refl _)));have HX6:=eh X6;have hlb6:=eh (fun b (q:S b)=>Nat.lt_of_lt_of_le (HLb.out b q) hb6.size);have hm6:m≤12:=by have:=HR.out.1;simp[bi]at this;omega
   have Hco:=eh (fun x=>contains_any w6 (l:=W2.map fun(y:Nat)=>(y:Int)) (c:=k) (show Rd w6 wc.heap.size 1 A m (ints (W2.map fun(y:Nat)=>(y:Int))) by
    have e:ints (W2.map fun(y:Nat)=>(y:Int))=bi W2:=by simp[ints,bi]
    rw[e];exact hR6) (by omega) x)
   have hks:(mm.pa++mm.lo).size=s.locals.length:=by rw[hll];simp[nloc]
   generalize mm.pa++mm.lo=ks at*;have Hks:=eh hks;have hl12:s.locals.length≤12:=by omega
   clear hks hll C6 X6 Lo6 Sk6 hR6 S6 hb6 HX HLo HSk HS' HF HLb HR lc lb hsl;go_wp2;go_loopw [102] (fun iv wr=>∃q:Nat,q≤s.locals.length∧iv=.int .i64 q∧wr=w6∧Hid (∀j,j<q→if j∈W2 then slotB f (s.locals.getD j 0) (ks.extract j (j+1)) n=true else s.locals.getD j 0= -1)) (fun iv _=>s.locals.length-(intOf iv).toNat)
   case atStart=>exact⟨0,Nat.zero_le _,rfl,rfl,eh (fun j hj=>by omega)⟩
   case round=>
    obtain⟨q,hq,rfl,rfl,HA⟩:=hrel
    by_cases hlt:q<s.locals.length
    ·have i1:(q:Int)<s.locals.length:=by omega
     obtain⟨b,off,hA1,hSb,hcb⟩:=HLo6.out.2 (by omega);have hv:wr.cell? ⟨b,off+q,none⟩=some (.int .i64 (s.locals.getD q 0)):=hcb q _ (by simp[ints,hlt]);have lb:=hlb6.out b hSb;subst hA1;have hxlo:=HI.out.lo.1 (s.locals.getD q 0) (by rw[List.getD_eq_getElem?_getD,List.getElem?_eq_getElem hlt];exact List.getElem_mem hlt);clear hcb x3 lx6;have Hlt:=eh hlt;have Hmem:=eh (show((q:Int)∈W2.map fun(y:Nat)=>(y:Int))↔q∈W2 from⟨fun a=>by
      obtain⟨y,h1,h2⟩:=List.mem_map.1 a;have :y=q:=by omega
      exact this▸h1,fun a=>List.mem_map.2 ⟨q,a,rfl⟩⟩)
     have Hc2:=eh (Hco.out q);obtain⟨r,hr⟩:∃r,r=decide ((q:Int)∈W2.map fun(y:Nat)=>(y:Int)):=⟨_,rfl⟩;rw[←hr]at Hc2;have Hr:=eh hr;clear hr;obtain⟨Fs,hFs⟩:=HS6.out;have Hs2:=eh (slot_any hFs.chk hxlo (ks.extract q (q+1)) n);clear hFs;generalize hxv:s.locals.getD q 0=xv at*;have Hxv:=eh hxv;clear hxv;cases r with
     |false=>
      have hnm:¬q∈W2:=fun a=>by have:=Hr.out;rw[decide_eq_true (Hmem.out.2 a)]at this;cases this
      by_cases hm1:xv= -1
      ·have g3:(xv != -1)=false:=by simp[hm1]
       have HA2:=eh (show∀j,j<q+1→if j∈W2 then slotB f (s.locals.getD j 0) (ks.extract j (j+1)) n=true else s.locals.getD j 0= -1 from fun j hj=>by
        by_cases e:j=q
        ·subst e;rw[if_neg hnm,Hxv.out];exact hm1
        ·exact HA.out j (by omega))
       clear hm1 hnm;go_wp2_with (go_at_call 45;refine Hc2.out.mono ?_;rintro e w' ⟨rfl,rfl⟩);go_roundw
       case rel=>exact⟨q+1,Hlt.out,by go_num,trivial,HA2⟩
       case measure=>have:=Hlt.out;simp[intOf];omega
      ·have g3:(xv != -1)=true:=by simp[hm1]
       have HRs:=eh (HPf.out wr (fun a=>hm1 (by have:=(Hin.out.1 a).2.1 q hlt;rw[if_neg hnm,Hxv.out]at this;exact this)) HS6.out HF6.out);clear hm1 hnm;go_wp2_with (go_at_call 45;refine Hc2.out.mono ?_;rintro e w' ⟨rfl,rfl⟩);exact HRs.out
     |true=>
      have hme:q∈W2:=Hmem.out.1 (by simpa using Hr.out.symm);have hq1:q+1≤ks.size:=by have:=Hks.out;omega
      obtain⟨r2,hr2⟩:∃r2,r2=slotB f xv (ks.extract q (q+1)) n:=⟨_,rfl⟩;rw[←hr2]at Hs2;cases r2 with
      |true=>
       have HA2:=eh (show∀j,j<q+1→if j∈W2 then slotB f (s.locals.getD j 0) (ks.extract j (j+1)) n=true else s.locals.getD j 0= -1 from fun j hj=>by
        by_cases e:j=q
        ·subst e;rw[if_pos hme,Hxv.out];exact hr2.symm
        ·exact HA.out j (by omega))
       clear hr2 hme;go_wp2_with fail;refine Hc2.out.mono ?_;rintro e w' ⟨rfl,hw'⟩;rw[←hw'];clear hw';go_wp2_with fail;refine Hs2.out.mono ?_;rintro e w' ⟨rfl,hw'⟩;rw[hw'];clear hw';go_wp2;go_roundw
       case rel=>exact⟨q+1,Hlt.out,by go_num,trivial,HA2⟩
       case measure=>have:=Hlt.out;simp[intOf];omega
      |false=>
       have HRs:=eh (HPf.out wr (fun a=>by have:=(Hin.out.1 a).2.1 q hlt;rw[if_pos hme,Hxv.out,←hr2]at this;cases this) HS6.out HF6.out);clear hr2 hme;go_wp2_with fail;refine Hc2.out.mono ?_;rintro e w' ⟨rfl,hw'⟩;rw[←hw'];clear hw';go_wp2_with fail;refine Hs2.out.mono ?_;rintro e w' ⟨rfl,hw'⟩;rw[hw'];clear hw';go_wp2;exact HRs.out
    ·have e:q=s.locals.length:=by omega
     have HA1:=eh (e▸HA.out);have y4:wr.cell? ⟨gx,4,none⟩=some (.slice A2 s.stack.length c2):=HX6.out.cell 4;clear HA e x3;have hsl6:=HI.out.slen.1;have HW1:=eh Hle.out;go_wp2;go_loopw [127] (fun iv wx=>∃q:Nat,q≤s.stack.length∧iv=.int .i64 q∧wx=wr∧Hid (∀j,j<q→slotB f (s.stack.getD j 0) (W1.extract j (j+1)) n=true)) (fun iv _=>s.stack.length-(intOf iv).toNat)
     case atStart=>exact⟨0,Nat.zero_le _,rfl,rfl,eh (fun j hj=>by omega)⟩
     case round=>
      clear y4 lx6;obtain⟨q,hq,rfl,rfl,HA⟩:=hrel
      by_cases hlt:q<s.stack.length
      ·have i1:(q:Int)<s.stack.length:=by omega
       obtain⟨b,off,hA2,hSb,hcb⟩:=HSk6.out.2 (by omega);have hv:wr.cell? ⟨b,off+q,none⟩=some (.int .i64 (s.stack.getD q 0)):=hcb q _ (by simp[ints,hlt]);have lb:=hlb6.out b hSb;subst hA2;have hxlo:=HI.out.lo.2 (s.stack.getD q 0) (by rw[List.getD_eq_getElem?_getD,List.getElem?_eq_getElem hlt];exact List.getElem_mem hlt);clear hcb;have Hlt:=eh hlt;obtain⟨Fs,hFs⟩:=HS6.out;have Hs2:=eh (slot_any hFs.chk hxlo (W1.extract q (q+1)) n);clear hFs;have hq1:q+1≤W1.size:=by have:=HW1.out;omega
       generalize hxv:s.stack.getD q 0=xv at*;have Hxv:=eh hxv;clear hxv;obtain⟨r2,hr2⟩:∃r2,r2=slotB f xv (W1.extract q (q+1)) n:=⟨_,rfl⟩;rw[←hr2]at Hs2;cases r2 with
       |true=>
        have HA2:=eh (show∀j,j<q+1→slotB f (s.stack.getD j 0) (W1.extract j (j+1)) n=true from fun j hj=>by
         by_cases e:j=q
         ·subst e;rw[Hxv.out];exact hr2.symm
         ·exact HA.out j (by omega))
        clear hr2;go_wp2_with fail;refine Hs2.out.mono ?_;rintro e w' ⟨rfl,hw'⟩;rw[hw'];clear hw';go_wp2;go_roundw
        case rel=>exact⟨q+1,Hlt.out,by go_num,trivial,HA2⟩
        case measure=>have:=Hlt.out;simp[intOf];omega
       |false=>
        have HRs:=eh (HPf.out wr (fun a=>by have:=(Hin.out.1 a).2.2 q Hlt.out;rw[Hxv.out,←hr2]at this;cases this) HS6.out HF6.out);clear hr2;go_wp2_with fail;refine Hs2.out.mono ?_;rintro e w' ⟨rfl,hw'⟩;rw[hw'];clear hw';go_wp2;exact HRs.out
      ·have e:q=s.stack.length:=by omega
       have HRs:=eh (HPt.out wr (Hin.out.2 ⟨HW1.out,HA1.out,e▸HA.out⟩) HS6.out HF6.out);clear HA e;go_wp2;exact HRs.out
  ·have g1:((s.stack.length:Int) != (W1.size:Int))=true:=by simp;omega
   have HRs:=eh (HPf.out wc (fun q=>hle (Hin.out.1 q).1) HS'.out HF.out);clear hle;go_wp2;exact HRs.out
end Go.Proofs.YtgbgbmdiomhfiaaGreatDoor