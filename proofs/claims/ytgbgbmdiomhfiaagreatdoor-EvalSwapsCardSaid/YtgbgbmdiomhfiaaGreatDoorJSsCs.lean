/-
 SsSt, St11, St12, SsSn, St13, SsCk, SsCs.
-/
import Derived.Test.YtgbgbmdiomhfiaaGreatDoorJSt9
import Derived.Test.YtgbgbmdiomhfiaaGreatDoorJRv1
import Derived.Test.YtgbgbmdiomhfiaaGreatDoorJLightB
set_option linter.unusedSimpArgs false
set_option linter.unusedVariables false
set_option maxHeartbeats 16000000
set_option maxRecDepth 100000
namespace Go.Proofs.YtgbgbmdiomhfiaaGreatDoor
open Go.RowKit Go.Maps
structure StandsIn(w:World)(S:Nat→Prop)(gc gv:Nat)(p:Prg)(vs:List Vs)(f:Fn)(gb gp gt gi gd:Nat)(blk plc idm dep:List Int)(lv dv:Value):Prop where
 nin:NodesIn w S gc gv p vs f gb gp blk plc (.pointer (some ⟨gt,0,none⟩)) lv dv
 bp:Blk w gp 3 ⟨ints plc⟩
 tree:TreeAt w gt gi gd f.blocks.length idm dep
 ok:TreeOk (EI (grF f)) f.blocks.length idm dep
 blocks:BlocksOk f
 nodes:nodesOk p f blk
 nb:f.blocks.length≤500
 args:∀i,i<f.nodes.length→(ndAt f i).args.length≤1000000
 lt:gt<w.heap.size∧gi<w.heap.size∧gd<w.heap.size
section
variable {w w':World} {S:Nat→Prop} {gc gv:Nat} {p:Prg} {vs:List Vs} {f:Fn} {gb gp gt gi gd:Nat} {blk plc idm dep:List Int} {lv dv:Value}
theorem StandsIn.below(h:StandsIn w S gc gv p vs f gb gp gt gi gd blk plc idm dep lv dv)(hb:Below w.heap.size w w'):StandsIn w' S gc gv p vs f gb gp gt gi gd blk plc idm dep lv dv:=
 ⟨h.nin.below hb,h.bp.below hb h.bp.lt,h.tree.kb (KB.of_below (S:=fun b=>b<w.heap.size) hb (fun b h=>h)) h.lt.1 h.lt.2.1 h.lt.2.2,h.ok,h.blocks,h.nodes,h.nb,h.args,⟨Nat.lt_of_lt_of_le h.lt.1 hb.size,Nat.lt_of_lt_of_le h.lt.2.1 hb.size,Nat.lt_of_lt_of_le h.lt.2.2 hb.size⟩⟩
theorem StandsIn.arg(h:StandsIn w S gc gv p vs f gb gp gt gi gd blk plc idm dep lv dv){i k:Nat}{a:Int}(hi:i<f.nodes.length)(ha:(ndAt f i).args[k]? =some a):0≤a∧a<f.nodes.length:=by
 obtain⟨fm,_,h2⟩:=h.nodes i hi;have:=h2.args k a ha;exact⟨this.1,this.2.1⟩
theorem StandsIn.phi(h:StandsIn w S gc gv p vs f gb gp gt gi gd blk plc idm dep lv dv){i:Nat}(hi:i<f.nodes.length)(h41:(ndAt f i).op=41):(ndAt f i).args.length=(bkAt f (blk.getD i 0).toNat).preds.length:=by
 obtain⟨fm,h1,h2⟩:=h.nodes i hi;have hF:formF p f blk i=if(ndAt f i).kind=sI∨(ndAt f i).kind=sR then some ⟨(ndAt f i).kind,repB (ndAt f i).kind (bkAt f (blk.getD i 0).toNat).preds.length,false,false,false,false⟩else none:=by
  unfold formF;rw[h41];rfl
 rw[hF]at h1;split at h1
 ·rename_i hk;cases h1;have hl:=h2.len;simp only at hl;rw[repB_size]at hl;have h1:(ndAt f i).kind.size=1:=by rcases hk with e|e<;>rw[e]<;>rfl
  rw[h1,Nat.mul_one]at hl;exact hl
 ·cases h1
theorem above_iff{a b:Int}(hb:BlocksOk f)(a0:0≤a)(a1:a<f.blocks.length)(b0:0≤b)(b1:b<f.blocks.length):aboveP (EI (grF f)) f.blocks.length a b↔Dm (EI (grF f)) a.toNat b.toNat:=
 ⟨fun h=>h.2.2,fun h=>⟨⟨a0,a1,hb.reach _ (by omega)⟩,⟨b0,b1,hb.reach _ (by omega)⟩,h⟩⟩
end
theorem quiet_above{w:World}{P:Program}{fn:FuncId}{args:Array Value}{n:Nat}{r:Bool}(h:Calls P fn args (w.drewN n) (AboveP (w.drewN n) r)):Calls P fn args (w.drewN n) fun e w''=>e=.returned (.bool r)∧∃m,w''=w.drewN m:=
 h.mono fun _ _ ⟨q,he,hw⟩=>⟨he,n+q,by rw[hw,World.drewN_drewN]⟩
theorem dec_iff{P Q:Prop}(h:P↔Q):dec P=dec Q:=by
 by_cases hp:P
 ·rw[dec_t hp,dec_t (h.1 hp)]
 ·rw[dec_f hp,dec_f (fun q=>hp (h.2 q))]
theorem stands_any{w:World}{S:Nat→Prop}{gc gv:Nat}{p:Prg}{vs:List Vs}{f:Fn}{gb gp gt gi gd:Nat}{blk plc idm dep:List Int}{lv dv:Value}(hI:StandsIn w S gc gv p vs f gb gp gt gi gd blk plc idm dep lv dv):
 Calls Tryz.prog 24 #[.pointer (some ⟨gc,0,none⟩)] w (DecPost w (standsOk f blk plc)):=by
 have HPt:=eh (fun w' (h1:Below w.heap.size w w') (h2:standsOk f blk plc)=>(show DecPost w (standsOk f blk plc) (.returned (.bool true)) w' from⟨h1,.inl ⟨rfl,h2⟩⟩));have HPf:=eh (fun w' (h1:Below w.heap.size w w') (h2:¬standsOk f blk plc)=>(show DecPost w (standsOk f blk plc) (.returned (.bool false)) w' from⟨h1,.inr ⟨rfl,h2⟩⟩));have HI:=eh hI;obtain⟨Ac,cc,Am,cm,An,cn,Ab,cb,As,cs,hC⟩:=hI.nin.chk;have c5:w.cell? ⟨gc,5,none⟩=some (.slice An f.nodes.length cn):=hC.blk.cell 5;have lC:=hC.blk.lt;have hnd:=hI.nin.nd;have HC:=eh hC;generalize DecPost w (standsOk f blk plc)=Post at*;clear hI hC;go_enter Tryz.func24,Tryz.ntmps24;go_wp2;go_loopw [13] (fun iv wr=>∃i:Nat,i≤f.nodes.length∧iv=.int .i64 i∧Hid (∀j,j<i→∀(k:Nat) (a:Int),(ndAt f j).args[k]? =some a→argAbv f blk plc j k a)∧Hid (Below w.heap.size w wr)) (fun iv _=>f.nodes.length-(intOf iv).toNat)
 case atStart=>exact⟨0,Nat.zero_le _,rfl,eh (fun j h=>by omega),eh (Below.refl _ _)⟩
 case round=>
  clear c5 lC;obtain⟨i,hi,rfl,HO,HB0⟩:=hrel
  by_cases hlt:i<f.nodes.length
  ·have i0:(0:Int)≤i:=by omega
   have i1:(i:Int)<f.nodes.length:=by omega
   have hC1:=HC.out.below HB0.out;obtain⟨bn,on_,A1,c1n,hAn,hSn,v0,v1,v2,v3,v4,v5,v6,rr⟩:=rd_nd hC1.fn.nodes hlt;subst hAn;have lbn:=(hC1.lt bn hSn).1;have hal:(f.nodes.getD i default).args.length≤1000000:=HI.out.args i hlt;have hphi:(f.nodes.getD i default).op=41→(f.nodes.getD i default).args.length=(bkAt f (blk.getD i 0).toNat).preds.length:=fun h=>HI.out.phi hlt h
   obtain⟨x,hxx⟩:∃x,f.nodes.getD i default=x:=⟨_,rfl⟩;rw[hxx]at v0 v1 v2 v3 v4 v5 v6 rr hal hphi;have Hx:=eh (show ndAt f i=x from hxx);obtain⟨op,xa,xb,st,kd,xn,args⟩:=x;simp only at v0 v1 v2 v3 v4 v5 v6 rr hal hphi;have Hphi:=eh hphi;have hbW:=HB0.out.alloc HB0.out.size (.cells #[.int .i64 op,.int .i64 xa,.int .i64 xb,.int .i64 st,.string kd,.int .i64 xn,.slice A1 args.length c1n] 40);have XW:=Blk.new wr 40 #[.int .i64 op,.int .i64 xa,.int .i64 xb,.int .i64 st,.string kd,.int .i64 xn,.slice A1 args.length c1n];have HRR:=eh (rr.rd (B:=w.heap.size) (fun b hb=>(HC.out.lt b hb).1));have HRW:=eh (HRR.out.keep (w':=wr.alloc (.cells #[.int .i64 op,.int .i64 xa,.int .i64 xb,.int .i64 st,.string kd,.int .i64 xn,.slice A1 args.length c1n] 40)) (fun q hq=>(hbW.cell hq).trans (HB0.out.cell hq).symm));have HIW:=eh (HI.out.below hbW);have HCW:=eh (HC.out.below hbW);have HbW:=eh hbW;clear hxx rr hC1 hphi hbW HRR;go_upto_region 4 with(fail);obtain⟨g4,hg4⟩:∃g4,g4=wr.heap.size:=⟨_,rfl⟩;rw[←hg4]at XW⊢;clear hg4 v0 v1 v2 v3 v4 v5 v6 lbn;generalize wr.alloc (.cells #[.int .i64 op,.int .i64 xa,.int .i64 xb,.int .i64 st,.string kd,.int .i64 xn,.slice A1 args.length c1n] 40)=w4 at*;have x0:=XW.at0;have x6:w4.cell? ⟨g4,6,none⟩=some (.slice A1 args.length c1n):=XW.cell 6;have lX:=XW.lt;have hib:=HI.out.nin.st.blk_at hlt;obtain⟨bi,ki,hbi,-,ebi,-,-⟩:=hib;have Hebi:=eh ebi;clear XW ebi;go_wp2;go_loopw [21] (fun jv wx=>∃k q:Nat,k≤args.length∧jv=.int .i64 k∧Hid (∀(j:Nat) (a:Int),j<k→args[j]? =some a→argAbv f blk plc i j a)∧wx=w4.drewN q) (fun jv _=>args.length-(intOf jv).toNat)
   case atStart=>exact⟨0,0,Nat.zero_le _,rfl,eh (fun j a h=>by omega),rfl⟩
   case round=>
    clear x6;obtain⟨k,q,hk,rfl,HA,rfl⟩:=hrel
    by_cases hkl:k<args.length
    ·have k0:(0:Int)≤k:=by omega
     have k1:(k:Int)<args.length:=by omega
     obtain⟨a,hak⟩:∃a,args[k]? =some a:=⟨_,List.getElem?_eq_getElem hkl⟩;obtain⟨br,orr,rfl,hbr,z0⟩:=uX HRW.out (k:=k) hkl;have hav:args[k]?.getD 0=a:=by rw[hak];rfl
     rw[hav]at z0;have hrng:=HI.out.arg hlt (k:=k) (a:=a) (by rw[Hx.out];exact hak);obtain⟨m,rfl⟩:∃m:Nat,a=m:=⟨a.toNat,by omega⟩;have hml:m<f.nodes.length:=by omega
     have HAk:=eh hak;have lbr:br<w4.heap.size:=by have:=HbW.out.size;omega
     have hno:¬argAbv f blk plc i k m→¬standsOk f blk plc:=fun h h2=>h (h2 i hlt k m (by rw[Hx.out];exact hak))
     have HNO:=eh hno;have hyes:argAbv f blk plc i k m→∀(j:Nat) (a:Int),j<k+1→args[j]? =some a→argAbv f blk plc i j a:=fun h j a' hj hja=>by
      by_cases e:j=k
      ·subst e;rw[HAk.out]at hja;cases hja;exact h
      ·exact HA.out j a' (by omega) hja
     have HYES:=eh hyes;have dx0:(w4.drewN q).cell? ⟨g4,0,none⟩=_:=x0;have dz0:(w4.drewN q).cell? ⟨br,orr+k,none⟩=_:=z0;have dlX:g4<(w4.drewN q).heap.size:=lX;have dlb:br<(w4.drewN q).heap.size:=lbr;have HI5:=eh (HIW.out.below (uC (Below.refl _ _) q));have HC5:=eh (HCW.out.below (uC (Below.refl _ _) q));clear hak hav hno hyes z0 lbr;generalize hw5:w4.drewN q=w5 at*;have Hw5:=eh hw5;have Hb5:=eh (show Below w.heap.size w w5 from hw5▸uC HbW.out q);clear hw5
     by_cases h41:op=41
     ·subst h41;obtain⟨bm,km,hbm,-,ebm,-,-⟩:=HI.out.nin.st.blk_at hml;have hpl:=Hphi.out rfl;rw[Hebi.out,Int.toNat_natCast]at hpl;have hkp:k<(bkAt f bi).preds.length:=by omega
      obtain⟨bk,ok,B1,d1,B2,d2,B3,d3,B4,d4,hAb,hSb,y0,y1,y2,y3,-,-,-,rp⟩:=rd_bk HC5.out.fn.blocks hbi;subst hAb;have hpr:=HI.out.blocks.preds bi hbi;have hpk:∃pk:Nat,(bkAt f bi).preds[k]? =some (pk:Int)∧pk<f.blocks.length:=by
       obtain⟨v,hv⟩:∃v,(bkAt f bi).preds[k]? =some v:=⟨_,List.getElem?_eq_getElem hkp⟩;have hmem:=List.mem_of_getElem? hv;rw[hpr]at hmem;have:=pdsTo_mem.1 hmem;exact⟨v.toNat,by rw[hv];congr 1;omega,by omega⟩
      obtain⟨pk,hpk,hpl2⟩:=hpk;obtain⟨bq,oq,hB4,hbq,z4⟩:=uX (rp.rd (B:=w5.heap.size) (fun b hb=>(HC5.out.lt b hb).1)) (k:=k) hkp;subst hB4;have hpv:(bkAt f bi).preds[k]?.getD 0=(pk:Int):=by rw[hpk];rfl
      rw[hpv]at z4;have c3:w5.cell? ⟨gc,6,none⟩=some (.slice (some ⟨bk,ok,none⟩) f.blocks.length cb):=HC5.out.blk.cell 6;have c8:w5.cell? ⟨gc,8,none⟩=some (.slice (some ⟨gb,0,none⟩) f.nodes.length f.nodes.length):=HC5.out.blk.cell 8;have c10:w5.cell? ⟨gc,10,none⟩=some (.pointer (some ⟨gt,0,none⟩)):=HC5.out.blk.cell 10;have lC5:=HC5.out.blk.lt;have lgb:=HI5.out.nin.bb.lt;have e1:=uH HI5.out.nin.bb (show m<blk.length by rw[HI.out.nin.st.l1];exact hml);have e2:=uH HI5.out.nin.bb (show i<blk.length by rw[HI.out.nin.st.l1];exact hlt);rw[ebm]at e1;rw[Hebi.out]at e2;have lbk:=(HC5.out.lt bk hSb).1;have hab:argAbv f blk plc i k m↔Dm (EI (grF f)) bm pk:=by
       unfold argAbv;rw[Hx.out,if_pos rfl,Hebi.out,Int.toNat_natCast,Int.toNat_natCast,ebm,Int.toNat_natCast,List.getD_eq_getElem?_getD,hpv,Int.toNat_natCast]
      have hrr:aboveB (EI (grF f)) f.blocks.length bm pk=dec (Dm (EI (grF f)) bm pk):=dec_iff (by
       have:=above_iff (f:=f) (a:=bm) (b:=pk) HI.out.blocks (by omega) (by omega) (by omega) (by omega);simpa using this)
      have HAB:=eh (fun n=>quiet_above (r:=dec (Dm (EI (grF f)) bm pk)) (by rw[←hrr];exact above_any HI5.out.ok (by have:=HI.out.nb;omega) (HI5.out.tree.drewN n) (bm:Int) (pk:Int)));have p0:(0:Int)≤bi:=by omega
      have p1:(bi:Int)<f.blocks.length:=by omega
      have p2:(m:Int)<f.nodes.length:=by omega
      have p3:(0:Int)≤m:=by omega
      have p4:(k:Int)<(bkAt f bi).preds.length:=by omega
      have Hab:=eh hab;clear rp y0 y1 y2 hpr hpk hpv ebm hab hrr hkp hpl;generalize(f.blocks.getD bi default).preds.length=np at*;cases hd:dec (Dm (EI (grF f)) bm pk)with
      |true=>
       have HA2:=eh (HYES.out (Hab.out.2 (dec_p hd)));rw[hd]at HAB;clear hd;go_wp2;go_quiet ((go_at_call 49;exact HAB.out _));rename Nat=>q2
       go_wp2;go_roundw
       case rel=>exact⟨k+1,q+q2,by omega,by go_num,HA2,by rw[←Hw5.out];exact World.drewN_drewN _ _ _⟩
       case measure=>simp[intOf];omega
      |false=>
       have HN2:=eh (HNO.out (fun h=>dec_n hd (Hab.out.1 h)));rw[hd]at HAB;clear hd;go_wp2;go_quiet ((go_at_call 49;exact HAB.out _));rename Nat=>q2
       go_wp2;exact HPf.out _ (uC Hb5.out _) HN2.out
     ·have g41:(op==41)=false:=by simpa using h41
      have g41':(op != 41)=true:=by simpa using h41
      have hrr:abvB (EI (grF f)) f.blocks.length blk plc m i=dec (argAbv f blk plc i k m):=dec_iff (by
       obtain⟨bm,km,hbm,-,ebm,-,-⟩:=HI.out.nin.st.blk_at hml;unfold argAbv abvN;rw[Hx.out];simp only;rw[if_neg h41,Int.toNat_natCast,ebm,Hebi.out];have:=above_iff (f:=f) (a:=bm) (b:=bi) HI.out.blocks (by omega) (by omega) (by omega) (by omega)
       by_cases e:(bm:Int)=bi
       ·rw[if_pos e,if_pos e]
       ·rw[if_neg e,if_neg e];exact this)
      have HAB:=eh (fun n=>quiet_above (r:=dec (argAbv f blk plc i k m)) (by rw[←hrr];exact chkAbove_any HI5.out.ok (by have:=HI.out.nb;omega) (HI5.out.tree.drewN n) (HC5.out.blk.cell 8) (HC5.out.blk.cell 9) (HC5.out.blk.cell 10) HI5.out.nin.bb HI5.out.bp HI.out.nin.st.l1 HI.out.nin.st.l2 m i hml hlt));clear hrr h41;cases hd:dec (argAbv f blk plc i k m)with
      |true=>
       have HA2:=eh (HYES.out (dec_p hd));rw[hd]at HAB;clear hd;go_wp2;go_quiet ((go_at_call 51;exact HAB.out _));rename Nat=>q2
       go_wp2;go_roundw
       case rel=>exact⟨k+1,q+q2,by omega,by go_num,HA2,by rw[←Hw5.out];exact World.drewN_drewN _ _ _⟩
       case measure=>simp[intOf];omega
      |false=>
       have HN2:=eh (HNO.out (fun h=>dec_n hd h));rw[hd]at HAB;clear hd;go_wp2;go_quiet ((go_at_call 51;exact HAB.out _));rename Nat=>q2
       go_wp2;exact HPf.out _ (uC Hb5.out _) HN2.out
    ·have e:k=args.length:=by omega
     have hge:¬(k:Int)<args.length:=by omega
     have HO2:=eh (show∀j,j<i+1→∀(k:Nat) (a:Int),(ndAt f j).args[k]? =some a→argAbv f blk plc j k a from fun j hj k' a' h=>by
      by_cases e2:j=i
      ·subst e2;rw[Hx.out]at h;exact HA.out k' a' (by have:=(List.getElem?_eq_some_iff.1 h).1;simp only at this;omega) h
      ·exact HO.out j (by omega) k' a' h)
     clear hkl e;go_wp2;go_roundw
     case rel=>exact⟨i+1,by omega,by go_num,HO2,eh (uC HbW.out _)⟩
     case measure=>simp[intOf];omega
  ·obtain rfl:i=f.nodes.length:=by omega
   have hge:¬(f.nodes.length:Int)<f.nodes.length:=by omega
   clear hlt;go_wp2;exact HPt.out _ HB0.out (fun j hj=>HO.out j hj)
def opOf(p:Prg)(s:Ste):Int:=((mthAt p s.mth.toNat).code.getD s.pc.toNat default).op
def hasOp(p:Prg)(s:Ste)(op:Int):Bool:=if(op==42)=true then backF (mthAt p s.mth.toNat) s.pc else if(op==43)=true then opOf p s==32 else if(op==44)=true then opOf p s==23 else opOf p s==op
def namOf(f:Fn)(i:Nat):List Int:=namF f ((ndAt f i).st.toNat+1) (ndAt f i).st true
structure HasOk(p:Prg)(f:Fn)(blk plc:List Int)(i:Nat):Prop where
 abv:∀n∈namOf f i,0≤n→abvN f blk plc n.toNat i
 op:hasOp p (stAt f (ndAt f i).st.toNat) (ndAt f i).op=true
structure HasIn(p:Prg)(f:Fn)(i:Nat):Prop where
 lt:i<f.nodes.length
 st:0≤(ndAt f i).st∧(ndAt f i).st.toNat<f.states.length
 sts:f.states.length≤4000
 bnd:∀j,StBnd (stAt f j)
 m:0≤(stAt f (ndAt f i).st.toNat).mth∧(stAt f (ndAt f i).st.toNat).mth.toNat<p.methods.length
 pc:0≤(stAt f (ndAt f i).st.toNat).pc∧(stAt f (ndAt f i).st.toNat).pc.toNat<(mthAt p (stAt f (ndAt f i).st.toNat).mth.toNat).code.length
 code:∀k,k<p.methods.length→(mthAt p k).code.length≤1000
 nam:∀n∈namOf f i,0≤n→n<f.nodes.length
theorem has_any{w:World}{S:Nat→Prop}{gc gv:Nat}{p:Prg}{vs:List Vs}{f:Fn}{gb gp gt gi gd:Nat}{blk plc idm dep:List Int}{lv dv:Value}(hI:StandsIn w S gc gv p vs f gb gp gt gi gd blk plc idm dep lv dv){i:Nat}(hh:HasIn p f i)(A:Option Addr)(c:Nat):
 Calls Tryz.prog 54 #[.pointer (some ⟨gc,0,none⟩),.int .i64 i,ndv (ndAt f i) A c] w (DecPost w (HasOk p f blk plc i)):=by
 have HPt:=eh (fun w' (h1:Below w.heap.size w w') (h2:HasOk p f blk plc i)=>(show DecPost w (HasOk p f blk plc i) (.returned (.bool true)) w' from⟨h1,.inl ⟨rfl,h2⟩⟩));have HPf:=eh (fun w' (h1:Below w.heap.size w w') (h2:¬HasOk p f blk plc i)=>(show DecPost w (HasOk p f blk plc i) (.returned (.bool false)) w' from⟨h1,.inr ⟨rfl,h2⟩⟩));have HI:=eh hI;have HH:=eh hh;obtain⟨Ac,cc,Am,cm,An,cn,Ab,cb,As,cs,hC⟩:=hI.nin.chk;have HC:=eh hC;obtain⟨x,hx⟩:∃x,x=ndAt f i:=⟨_,rfl⟩;have Hx:=eh hx;obtain⟨sN,hsN⟩:∃sN:Nat,(ndAt f i).st=sN:=⟨_,(Int.toNat_of_nonneg hh.st.1).symm⟩;have HsN:=eh hsN;have hsl:sN<f.states.length:=by have:=hh.st.2;rw[hsN]at this;exact this
 rw[←hx]at hsN⊢;generalize DecPost w (HasOk p f blk plc i)=Post at*;have bX:=Blk.new w 40 #[.int .i64 x.op,.int .i64 x.a,.int .i64 x.b,.int .i64 x.st,.string x.kind,.int .i64 x.n,.slice A x.args.length c];have hb1:=(Below.refl w.heap.size w).alloc (Nat.le_refl _) (.cells #[.int .i64 x.op,.int .i64 x.a,.int .i64 x.b,.int .i64 x.st,.string x.kind,.int .i64 x.n,.slice A x.args.length c] 40);simp only[ndv];rw[hsN]at bX hb1⊢;have HxN:=eh hsN;clear hI hh hC hx hsN;go_enter Tryz.func54,Tryz.ntmps54;go_upto_region 1 with(fail);generalize w.alloc (.cells #[.int .i64 x.op,.int .i64 x.a,.int .i64 x.b,.int .i64 (sN:Int),.string x.kind,.int .i64 x.n,.slice A x.args.length c] 40)=w1 at*;obtain⟨gx,hgx⟩:∃gx,gx=w.heap.size:=⟨_,rfl⟩;rw[←hgx]at bX⊢;have HI1:=eh (HI.out.below hb1);have hC1:=HC.out.below hb1;have HC1:=eh hC1;have HX1:=eh bX;have HB1:=eh hb1;have hNm:=named_any An Ab As cn cb cs f (w:=w1.drew) hC1.fn.states (fun b q=>(hC1.lt b q).1) HH.out.bnd HH.out.sts sN;rw[Int.toNat_natCast]at hNm;have HNm:=eh hNm;refine uE (S:=fun W=>W.cell? ⟨gc,3,none⟩=some (.int .i64 f.mth)∧W.cell? ⟨gc,4,none⟩=some (.int .i64 f.entry)∧W.cell? ⟨gc,5,none⟩=some (.slice An f.nodes.length cn)∧W.cell? ⟨gc,6,none⟩=some (.slice Ab f.blocks.length cb)∧W.cell? ⟨gc,7,none⟩=some (.slice As f.states.length cs)∧W.cell? ⟨gx,3,none⟩=some (.int .i64 (sN:Int))) (fun _=>true) (by kernel_rfl) ⟨hC1.blk.cell 3,hC1.blk.cell 4,hC1.blk.cell 5,hC1.blk.cell 6,hC1.blk.cell 7,bX.at3⟩ (fun HS=>?_);clear hgx bX hb1 hC1 hNm
 iterate 6 (refine uO rfl rfl HS (.inl ⟨rfl,fun W hW=>by obtain⟨h0,h1,h2,h3,h4,h5⟩:=hW;go_simp;rfl⟩) ?_;simp only[pS])
 refine uB 8 19 rfl HS (.inl ⟨rfl,fun W hW=>by go_simp;rfl⟩) ?_;try simp only[pS]
 refine uN 6 rfl (fun K HJ=>?_);go_simp;refine HNm.out.mono ?_;rintro e w2 ⟨A2,c2,rfl,own2,hb2'⟩;have hb2:Below w1.heap.size w1 w2:=⟨hb2'.os,hb2'.tape,hb2'.output,hb2'.size,hb2'.block⟩;have hI2:=HI1.out.below hb2;have hC2:=HC1.out.below hb2;have bX2:=HX1.out.below hb2 HX1.out.lt;have C2:w2.cell? ⟨gc,3,none⟩=some (.int .i64 f.mth)∧w2.cell? ⟨gc,4,none⟩=some (.int .i64 f.entry)∧w2.cell? ⟨gc,5,none⟩=some (.slice An f.nodes.length cn)∧w2.cell? ⟨gc,6,none⟩=some (.slice Ab f.blocks.length cb)∧w2.cell? ⟨gc,7,none⟩=some (.slice As f.states.length cs)∧w2.cell? ⟨gx,3,none⟩=some (.int .i64 (sN:Int)):=⟨hC2.blk.cell 3,hC2.blk.cell 4,hC2.blk.cell 5,hC2.blk.cell 6,hC2.blk.cell 7,bX2.at3⟩;refine HJ.out _ _ (fun _=>C2) ?_;clear HJ HS HNm;try simp only[pS]
 refine uO rfl rfl C2 (.inl ⟨rfl,fun W hW=>by obtain⟨h0,h1,h2,h3,h4,h5⟩:=hW;go_simp;rfl⟩) ?_;try simp only[pS]
 refine uD (by kernel_rfl) ?_ _;obtain⟨l,hl⟩:∃l,l=namF f (sN+1) sN true:=⟨_,rfl⟩;rw[←hl]at own2⊢;have Hl:=eh (show l=namOf f i by rw[hl];unfold namOf;rw[HsN.out,Int.toNat_natCast]);obtain⟨A3,k3,e3,hrd⟩:=Rd.of_own own2;cases e3;have hmax:l.length≤9223372036854775807:=by
  rcases own2.2 with⟨-,h⟩|⟨g,cap,cur,e,-,-,h1,h2,-⟩
  ·omega
  ·unfold maxLen at h2;omega
 have HI2:=eh hI2;have HC2:=eh hC2;have HX2:=eh bX2;have HB2:=eh (HB1.out.trans (hb2.mono HB1.out.size));have Hrd:=eh hrd;clear hl own2 hI2 hC2 bX2 hb2 hb2' C2 hrd;go_wp2;go_loopw [19] (fun iv wr=>∃k:Nat,k≤l.length∧iv=.int .i64 k∧Hid (Below w2.heap.size w2 wr)∧Hid (∀j,j<k→0≤l.getD j 0→abvN f blk plc (l.getD j 0).toNat i)) (fun iv _=>l.length-(intOf iv).toNat)
 case atStart=>exact⟨0,Nat.zero_le _,rfl,eh (Below.refl _ _),eh (fun j h=>by omega)⟩
 case round=>
  obtain⟨k,hk,rfl,Hb,HA⟩:=hrel
  by_cases hlt:k<l.length
  ·have k1:(k:Int)<l.length:=by omega
   obtain⟨br,orr,hAe,hbr,z0⟩:=uX (Hrd.out.keep (w':=wr) (fun q hq=>Hb.out.cell hq)) hlt;subst hAe;have lbr:=Nat.lt_of_lt_of_le hbr Hb.out.size;have hgd:l[k]?.getD 0=l.getD k 0:=by rw[List.getD_eq_getElem?_getD]
   rw[hgd]at z0;have hmem:l.getD k 0∈namOf f i:=by rw[←Hl.out,List.getD_eq_getElem?_getD,List.getElem?_eq_getElem hlt];exact List.getElem_mem hlt
   have Hlt:=eh hlt;have HYES:=eh (fun(h:0≤l.getD k 0→abvN f blk plc (l.getD k 0).toNat i)=>(show∀j,j<k+1→0≤l.getD j 0→abvN f blk plc (l.getD j 0).toNat i from fun j hj=>by
    by_cases e:j=k
    ·subst e;exact h
    ·exact HA.out j (by omega)))
   have HNO:=eh (fun(h0:0≤l.getD k 0) (h:¬abvN f blk plc (l.getD k 0).toNat i)=>(show¬HasOk p f blk plc i from fun q=>h (q.abv _ hmem h0)));have Hml:=eh (HH.out.nam _ hmem);clear hgd hmem;generalize l.getD k 0=n at*
   by_cases n0:0≤n
   ·obtain⟨m,rfl⟩:∃m:Nat,n=m:=⟨n.toNat,by omega⟩;have hml:m<f.nodes.length:=by have:=Hml.out n0;omega
    have HI5:=HI2.out.below Hb.out;have HC5:=HC2.out.below Hb.out;have hrr:abvB (EI (grF f)) f.blocks.length blk plc m i=dec (abvN f blk plc m i):=dec_iff (by
     obtain⟨bm,km,hbm,-,ebm,-,-⟩:=HI.out.nin.st.blk_at hml;obtain⟨bi,ki,hbi,-,ebi,-,-⟩:=HI.out.nin.st.blk_at HH.out.lt;unfold abvN;rw[ebm,ebi];have:=above_iff (f:=f) (a:=bm) (b:=bi) HI.out.blocks (by omega) (by omega) (by omega) (by omega)
     by_cases e:(bm:Int)=bi
     ·rw[if_pos e,if_pos e]
     ·rw[if_neg e,if_neg e];exact this)
    have HAB:=chkAbove_any HI5.ok (by have:=HI.out.nb;omega) HI5.tree (HC5.blk.cell 8) (HC5.blk.cell 9) (HC5.blk.cell 10) HI5.nin.bb HI5.bp HI.out.nin.st.l1 HI.out.nin.st.l2 m i hml HH.out.lt;rw[hrr]at HAB;have Hab:=eh HAB;clear hrr HI5 HC5 HAB hml;rw[Int.toNat_natCast]at HYES HNO;have g0:decide ((0:Int)≤m)=true:=by simp
    cases hd:dec (abvN f blk plc m i)with
    |true=>
     have HA2:=eh (HYES.out (fun _=>dec_p hd));rw[hd]at Hab;clear hd n0;go_wp2_with (go_at_call 51;refine Hab.out.mono ?_;rintro e w5 ⟨q,rfl,rfl⟩);go_roundw
     case rel=>exact⟨k+1,Hlt.out,by go_num,eh (uC Hb.out q),HA2⟩
     case measure=>have:=Hlt.out;simp[intOf];omega
    |false=>
     have HN2:=eh (HNO.out n0 (dec_n hd));rw[hd]at Hab;clear hd n0;go_wp2_with (go_at_call 51;refine Hab.out.mono ?_;rintro e w5 ⟨q,rfl,rfl⟩);exact HPf.out _ (HB2.out.trans ((uC Hb.out q).mono HB2.out.size)) HN2.out
   ·have g0:decide ((0:Int)≤n)=false:=by simpa using n0
    have HA2:=eh (HYES.out (fun h=>absurd h n0));clear n0;go_wp2;go_roundw
    case rel=>exact⟨k+1,Hlt.out,by go_num,Hb,HA2⟩
    case measure=>have:=Hlt.out;simp[intOf];omega
  ·have hAll:=eh (show∀n∈namOf f i,0≤n→abvN f blk plc n.toNat i from fun n hn h0=>by
    rw[←Hl.out]at hn;obtain⟨j,hj,e⟩:=List.getElem_of_mem hn;have:=HA.out j (by omega);rw[List.getD_eq_getElem?_getD,List.getElem?_eq_getElem hj]at this;simp only[Option.getD_some,e]at this;exact this h0)
   have hge:¬(k:Int)<l.length:=by omega
   clear hlt hmax;have hC5:=HC2.out.below Hb.out;obtain⟨bn,on_,A1,c1,A4,c4,A5,c5,hA,hSn,v0,v1,v2,v3,v4,v5,-⟩:=rd_ste hC5.fn.states hsl;subst hA;have lbn:=(hC5.lt bn hSn).1;have d7:wr.cell? ⟨gc,7,none⟩=some (.slice (some ⟨bn,on_,none⟩) f.states.length cs):=hC5.blk.cell 7;have lC:=hC5.blk.lt;have bX5:=HX2.out.below Hb.out HX2.out.lt;have lX:=bX5.lt;have x3:=bX5.at3;have i1:(sN:Int)<f.states.length:=by omega
   have HX5:=eh bX5;have hm:=HH.out.m;have hpc:=HH.out.pc;have hs2:stAt f (ndAt f i).st.toNat=stAt f sN:=by rw[HsN.out,Int.toNat_natCast]
   rw[hs2]at hm hpc;have HO:=eh (fun(b:Bool) (h:hasOp p (stAt f sN) x.op=b)=>(show hasOp p (stAt f (ndAt f i).st.toNat) (ndAt f i).op=b by rw[hs2,←Hx.out];exact h));have HBr:=eh (HB2.out.trans (Hb.out.mono HB2.out.size));have HCr:=eh hC5;unfold stAt at hm hpc HO;clear hC5 bX5 hs2;generalize f.states.getD sN default=s at*;have hb6:=(Below.refl wr.heap.size wr).alloc (Nat.le_refl _) (.cells (stc s A1 A4 A5 c1 c4 c5) 47);have bS:=Blk.new wr 47 (stc s A1 A4 A5 c1 c4 c5);go_upto_region 7 with(fail);refine uE (S:=fun W=>W.cell? ⟨gc,7,none⟩=some (.slice (some ⟨bn,on_,none⟩) f.states.length cs)∧W.cell? ⟨gx,3,none⟩=some (.int .i64 (sN:Int))∧W.cell? ⟨bn,on_+sN*6,none⟩=some (.int .i64 s.mth)∧W.cell? ⟨bn,on_+sN*6+1,none⟩=some (.int .i64 s.pc)∧W.cell? ⟨bn,on_+sN*6+2,none⟩=some (.int .i64 s.up)∧W.cell? ⟨bn,on_+sN*6+3,none⟩=some (.slice A1 s.locals.length c1)∧W.cell? ⟨bn,on_+sN*6+4,none⟩=some (.slice A4 s.stack.length c4)∧W.cell? ⟨bn,on_+sN*6+5,none⟩=some (.slice A5 s.virts.length c5)) (fun q=>decide (q≤9)) (by kernel_rfl) ⟨d7,x3,v0,v1,v2,v3,v4,v5⟩ (fun HS=>?_);have hSa:=fun O=>And.intro ((World.cell?_alloc_lt wr.drew O _ (World.block_lt_of_cell? wr.drew _ HS.1)).trans HS.1) (And.intro ((World.cell?_alloc_lt wr.drew O _ (World.block_lt_of_cell? wr.drew _ HS.2.1)).trans HS.2.1) (And.intro ((World.cell?_alloc_lt wr.drew O _ (World.block_lt_of_cell? wr.drew _ HS.2.2.1)).trans HS.2.2.1) (And.intro ((World.cell?_alloc_lt wr.drew O _ (World.block_lt_of_cell? wr.drew _ HS.2.2.2.1)).trans HS.2.2.2.1) (And.intro ((World.cell?_alloc_lt wr.drew O _ (World.block_lt_of_cell? wr.drew _ HS.2.2.2.2.1)).trans HS.2.2.2.2.1) (And.intro ((World.cell?_alloc_lt wr.drew O _ (World.block_lt_of_cell? wr.drew _ HS.2.2.2.2.2.1)).trans HS.2.2.2.2.2.1) (And.intro ((World.cell?_alloc_lt wr.drew O _ (World.block_lt_of_cell? wr.drew _ HS.2.2.2.2.2.2.1)).trans HS.2.2.2.2.2.2.1) ((World.cell?_alloc_lt wr.drew O _ (World.block_lt_of_cell? wr.drew _ HS.2.2.2.2.2.2.2)).trans HS.2.2.2.2.2.2.2)))))))
   have HSa:=eh hSa;clear d7 x3 v0 v1 v2 v3 v4 v5 hSa
   iterate 9 (refine uO rfl rfl HS (.inl ⟨rfl,fun W hW=>by obtain⟨h0,h1,h2,h3,h4,h5,h6,h7⟩:=hW;go_simp;rfl⟩) ?_;simp only[pS])
   refine uP rfl rfl (fun K HK=>?_);go_simp;refine HK.out _ _ (fun _=>HSa.out _) ?_;clear HK;try simp only[pS]
   refine uP rfl rfl (fun K HK=>?_);go_simp;refine HK.out _ _ (fun h=>by cases h) ?_;clear HK HSa;try simp only[pS]
   clear HS;refine uD (by kernel_rfl) ?_ _;obtain⟨w5,hw5,hb5,bI5⟩:∃w5,w5=(wr.alloc (.cells (stc s A1 A4 A5 c1 c4 c5) 47)).drew∧Below wr.heap.size wr w5∧Blk w5 wr.heap.size 47 (stc s A1 A4 A5 c1 c4 c5):=⟨_,rfl,hb6.drew,bS⟩;rw[←hw5];obtain⟨gy,hgy⟩:∃gy,gy=wr.heap.size:=⟨_,rfl⟩;rw[←hgy]at bI5⊢;clear hw5 hb6 bS hgy lbn lC lX i1;obtain⟨mi,hmi⟩:∃mi:Nat,s.mth=mi:=⟨_,(Int.toNat_of_nonneg hm.1).symm⟩;obtain⟨pi,hpi⟩:∃pi:Nat,s.pc=pi:=⟨_,(Int.toNat_of_nonneg hpc.1).symm⟩;have hml:=hm.2;have hpl:=hpc.2;rw[hmi,Int.toNat_natCast]at hml hpl;rw[hpi,Int.toNat_natCast]at hpl;have hC6:=HCr.out.below hb5;have bX6:=HX5.out.below hb5 HX5.out.lt;obtain⟨bm,om,⟨Ak,ck⟩,hA,hSm,hm',hcd⟩:=hC6.prg.ms.at (show p.methods[mi]? =some (mthAt p mi) by simp[hml]);have m0:w5.cell? ⟨bm,om+mi*4,none⟩=some (.string (mthAt p mi).pa):=hm' 0 _ rfl;have m1:w5.cell? ⟨bm,om+mi*4+1,none⟩=some (.string (mthAt p mi).lo):=hm' 1 _ rfl;have m2:w5.cell? ⟨bm,om+mi*4+2,none⟩=some (.string (mthAt p mi).re):=hm' 2 _ rfl;have m3:w5.cell? ⟨bm,om+mi*4+3,none⟩=some (.slice Ak (mthAt p mi).code.length ck):=hm' 3 _ rfl;have hrow:=Rd.more (RdS.rd (B:=w5.heap.size) hcd (fun b hb=>(hC6.lt b hb).1)) (Nat.le_refl _);obtain⟨bk,ok,hAk,hbk,i0,-⟩:=ins_at hrow hpl;subst hA hAk;have d2:w5.cell? ⟨gc,2,none⟩=some (.slice (some ⟨bm,om,none⟩) p.methods.length cm):=hC6.blk.cell 2;have y0:w5.cell? ⟨gy,0,none⟩=some (.int .i64 mi):=by rw[←hmi];exact bI5.at0
   have y1:w5.cell? ⟨gy,1,none⟩=some (.int .i64 pi):=by rw[←hpi];exact bI5.at1
   have x0:=bX6.at0;have lC:=hC6.blk.lt;have lX:=bX6.lt;have lY:=bI5.lt;have lbm:=(hC6.lt bm hSm).1;have hcl:=HH.out.code mi hml;have p1:(mi:Int)<p.methods.length:=by omega
   have p2:(pi:Int)<(mthAt p mi).code.length:=by omega
   have HOp:=eh (show hasOp p s x.op=if(x.op==42)=true then backF (mthAt p mi) pi else if(x.op==43)=true then((mthAt p mi).code.getD pi default).op==32 else if(x.op==44)=true then((mthAt p mi).code.getD pi default).op==23 else((mthAt p mi).code.getD pi default).op==x.op by
    unfold hasOp opOf;rw[hmi,hpi];rfl)
   have HB6:=eh (HBr.out.trans (hb5.mono HBr.out.size));have HBack:=eh (fun W (hW:Below w5.heap.size w5 W)=>back_any (some ⟨bk,ok,none⟩) ck (mthAt p mi) pi W (Rd.more (hrow.below hW (Nat.le_refl _)) hW.size) (by omega));have HRt:=eh (fun w' (hb:Below w.heap.size w w') (h:hasOp p s x.op=true)=>HPt.out w' hb ⟨hAll.out,HO.out true h⟩);have HRf:=eh (fun w' (hb:Below w.heap.size w w') (h:hasOp p s x.op=false)=>HPf.out w' hb (fun q=>by have:=q.op;rw[HO.out false h]at this;cases this));clear hcd hm' hC6 bX6 bI5 hmi hpi hm hpc hrow hbk hSm hml hpl hb5 HBr HCr HX5 HO hAll;generalize(mthAt p mi).code.getD pi default=ins at*;generalize hmm:mthAt p mi=mm at*;clear hmm;have HRb:=eh (fun(b:Bool) w' (hb:Below w.heap.size w w') (h:hasOp p s x.op=b)=>(show Post (.returned (.bool b)) w' from by cases b;exact HRf.out w' hb h;exact HRt.out w' hb h));clear HRt HRf;go_upto_region 8 with(fail);go_quiet (fail);rename Nat=>q
   have HBq:=eh (show Below w.heap.size w (w5.drewN q)from uC HB6.out q);clear i0;cases h42:(x.op==42)with
   |true=>
    have HOq:=eh (show hasOp p s x.op=backF mm pi by rw[HOp.out,if_pos h42]);have HBk:=eh (HBack.out (w5.drewN q).drew (uC (Below.refl _ _) q).drew);clear HOp HBack;go_upto_region 11 with(fail);clear h42 x0 lX;refine uE (S:=fun W=>W.cell? ⟨gc,2,none⟩=some (.slice (some ⟨bm,om,none⟩) p.methods.length cm)∧W.cell? ⟨gy,0,none⟩=some (.int .i64 mi)∧W.cell? ⟨gy,1,none⟩=some (.int .i64 pi)∧W.cell? ⟨bm,om+mi*4,none⟩=some (.string mm.pa)∧W.cell? ⟨bm,om+mi*4+1,none⟩=some (.string mm.lo)∧W.cell? ⟨bm,om+mi*4+2,none⟩=some (.string mm.re)∧W.cell? ⟨bm,om+mi*4+3,none⟩=some (.slice (some ⟨bk,ok,none⟩) mm.code.length ck)) (fun _=>true) (by kernel_rfl) ⟨d2,y0,y1,m0,m1,m2,m3⟩ (fun HS=>?_)
    iterate 11 (refine uO rfl rfl HS (.inl ⟨rfl,fun W hW=>by obtain⟨h0,h1,h2,h3,h4,h5,h6⟩:=hW;go_simp;rfl⟩) ?_;simp only[pS])
    refine uP rfl rfl (fun K HK=>?_);go_simp;refine HBk.out.mono ?_;rintro e w8 ⟨rfl,hb8⟩;have hb9:Below (w5.drewN q).heap.size (w5.drewN q) w8:=⟨hb8.os,hb8.tape,hb8.output,hb8.size,hb8.block⟩;have C8:=And.intro ((hb9.cell (p:=⟨gc,2,none⟩) lC).trans HS.1) (And.intro ((hb9.cell (p:=⟨gy,0,none⟩) lY).trans HS.2.1) (And.intro ((hb9.cell (p:=⟨gy,1,none⟩) lY).trans HS.2.2.1) (And.intro ((hb9.cell (p:=⟨bm,om+mi*4,none⟩) lbm).trans HS.2.2.2.1) (And.intro ((hb9.cell (p:=⟨bm,om+mi*4+1,none⟩) lbm).trans HS.2.2.2.2.1) (And.intro ((hb9.cell (p:=⟨bm,om+mi*4+2,none⟩) lbm).trans HS.2.2.2.2.2.1) ((hb9.cell (p:=⟨bm,om+mi*4+3,none⟩) lbm).trans HS.2.2.2.2.2.2))))));refine HK.out _ _ (fun _=>C8) ?_;clear HK HBk HS;try simp only[pS]
    refine uO rfl rfl C8 (.inl ⟨rfl,fun W hW=>by obtain⟨h0,h1,h2,h3,h4,h5,h6⟩:=hW;go_simp;rfl⟩) ?_;try simp only[pS]
    refine uD (by kernel_rfl) ?_ _;have HR:=eh (HRb.out _ w8 (HBq.out.trans (hb9.mono HBq.out.size)) HOq.out);clear hb8 hb9 C8 d2 y0 y1 m0 m1 m2 m3;go_wp2;exact HR.out
   |false=>
    cases h43:(x.op==43)with
    |true=>
     have HR:=eh (HRb.out _ _ HBq.out (show hasOp p s x.op=(ins.op==32) by rw[HOp.out,if_neg (by rw[h42];simp),if_pos h43]));go_wp2;exact HR.out
    |false=>
     cases h44:(x.op==44)with
     |true=>
      have HR:=eh (HRb.out _ _ HBq.out (show hasOp p s x.op=(ins.op==23) by rw[HOp.out,if_neg (by rw[h42];simp),if_neg (by rw[h43];simp),if_pos h44]));go_wp2;exact HR.out
     |false=>
      have HR:=eh (HRb.out _ _ HBq.out (show hasOp p s x.op=(ins.op==x.op) by rw[HOp.out,if_neg (by rw[h42];simp),if_neg (by rw[h43];simp),if_neg (by rw[h44];simp)]));go_wp2;exact HR.out
structure Vers(p:Prg)(vs:List Vs):Prop where
 len:vs.length=p.methods.length
 ok:∀i,i<p.methods.length→VOk p (mthAt p i) (vs.getD i default)
theorem stk_at{p:Prg}{vs:List Vs}(V:Vers p vs){m pc:Int}(h:(stackF vs m pc).2=true):
 0≤m∧m.toNat<p.methods.length∧0≤pc∧pc.toNat<(mthAt p m.toNat).code.length∧(vs.getD m.toNat default).seen.getD pc.toNat false=true∧(stackF vs m pc).1=(vs.getD m.toNat default).stacks.getD pc.toNat ⟨#[]⟩:=by
 unfold stackF askF stkF at*
 by_cases hm:0≤m∧m<vs.length
 ·rw[if_pos hm]at h⊢;split at h
  ·rename_i hp;have hl:m.toNat<p.methods.length:=by have:=V.len;omega
   have h2:=(V.ok _ hl).l2;exact⟨hm.1,hl,hp.1,by omega,hp.2.2,by rw[if_pos hp]⟩
  ·cases h
 ·rw[if_neg hm]at h;split at h
  ·rename_i hp;have:=hp.2.1;simp at this;omega
  ·cases h
theorem call_fits{p:Prg}{vs:List Vs}(V:Vers p vs){m pc:Nat}{b:Int}(hs:(stackF vs m pc).2=true)(b0:0≤b)(b1:b<p.methods.length)(hc:callOk p m pc b):(mthAt p b.toNat).pa.size≤(stackF vs m pc).1.size:=by
 obtain⟨-,h1,-,h2,h3,h4⟩:=stk_at V hs;simp only[Int.toNat_natCast]at h1 h2 h3 h4;obtain⟨ho,ha⟩:=hc b0;have hv:=V.ok m h1;obtain⟨-,bb,hb,-⟩:=hv.don pc (hv.all pc h3);rw[h4];unfold aftF at hb;rw[if_neg (by rw[ho];decide),if_neg (by rw[ho];decide),if_neg (by rw[ho];decide)]at hb;have he:(effF p (mthAt p m) ((mthAt p m).code.getD pc default)).1=(mthAt p b.toNat).pa:=by
  unfold effF;rw[ho,ha];simp only[show¬((8:Int)≤32∧(32:Int)≤20∧(32:Int)≠18) by decide,show¬((32:Int)=1∨(32:Int)=34) by decide,show¬((32:Int)=2∨(32:Int)=24) by decide,show¬((32:Int)=3) by decide,show¬((32:Int)=4) by decide,show¬((32:Int)=18) by decide,show¬((32:Int)=21) by decide,show¬((32:Int)=22) by decide,show¬((32:Int)=23∨(32:Int)=35) by decide,show¬((32:Int)=25) by decide,show¬((32:Int)=26) by decide,show¬((32:Int)=27∨(32:Int)=31) by decide,show¬((32:Int)=28) by decide,show¬((32:Int)=29) by decide,show¬((32:Int)=30) by decide,if_false,if_true];unfold methodF;rw[if_pos (by unfold inB;simp;omega)]
 by_cases hz:((vs.getD m default).stacks.getD pc ⟨#[]⟩).size<(mthAt p b.toNat).pa.size
 ·rw[he,if_pos hz]at hb;cases hb
 ·omega
theorem head_at{p:Prg}{vs:List Vs}{f:Fn}{s:Ste}(V:Vers p vs)(h:headB p vs f s=true){b:Int}(hb:0≤b→b<p.methods.length):HdAt p vs s b:=by
 unfold headB at h;simp only[Bool.and_eq_true,decide_eq_true_eq]at h;obtain⟨-,h2,h3⟩:=h;obtain⟨m0,m1,p0,p1,-,h4⟩:=stk_at V h2;have em:((s.mth.toNat:Nat):Int)=s.mth:=Int.toNat_of_nonneg m0;have ep:((s.pc.toNat:Nat):Int)=s.pc:=Int.toNat_of_nonneg p0;have h2':(stackF vs s.mth.toNat s.pc.toNat).2=true:=by rw[em,ep];exact h2
 refine⟨⟨m0,m1⟩,⟨p0,p1⟩,h2',h3,?_,fun b0=>⟨hb b0,fun hc=>call_fits V h2' b0 (hb b0) hc⟩⟩;rw[em,ep,h4];have:=(V.ok _ m1).le s.pc.toNat;omega
theorem heads_at{p:Prg}{vs:List Vs}{f:Fn}(V:Vers p vs):∀(i:Nat),i<f.states.length→headsB p vs f (i+1) i=true→∀b:Int,(0≤b→b<p.methods.length)→Hds p vs f i b∧∃r,Chn f i r:=by
 intro i;induction i using Nat.strongRecOn with
 |_ i ih=>
  intro hi h b hb;unfold headsB at h
  by_cases h1:(stAt f i).up< -1∨(i:Int)≤(stAt f i).up∨headB p vs f (stAt f i)=false
  ·rw[if_pos h1]at h;cases h
  ·rw[if_neg h1]at h;have hh:headB p vs f (stAt f i)=true:=by
    cases e:headB p vs f (stAt f i)with
    |true=>rfl
    |false=>exact absurd (.inr (.inr e)) h1
   have hd:=head_at V hh hb
   by_cases h2:(stAt f i).up<0
   ·exact⟨.top hi hd h2,_,.top hi h2⟩
   ·rw[if_neg h2]at h;obtain⟨u,hu⟩:∃u:Nat,(stAt f i).up=u:=⟨(stAt f i).up.toNat,by omega⟩;have hlt:u<i:=by omega
    rw[hu,Int.toNat_natCast,headsB_fuel p vs f u i hlt]at h;obtain⟨a1,r,a2⟩:=ih u hlt (by omega) h (stAt f i).mth (fun _=>by have:=hd.m;omega);exact⟨.on hi hd hu hlt a1,_,.on hi hu hlt a2⟩
theorem Chn.uniq{f:Fn}{i:Nat}{r r':List Int}(h:Chn f i r)(h':Chn f i r'):r=r':=by
 induction h generalizing r' with
 |top h1 h2=>
  cases h' with
  |top=>rfl
  |on a1 a2=>omega
 |on h1 h2 h3 h4 ih=>
  cases h' with
  |top a1 a2=>omega
  |on a1 a2 a3 a4=>
   have e2:=Int.ofNat.inj (h2.symm.trans a2);subst e2;rw[ih a4]
def TopE(p:Prg)(vs:List Vs)(f:Fn)(i:Nat):Prop:=∃r,Chn f i r∧TopOk p vs f i r
theorem top_iff{p:Prg}{vs:List Vs}{f:Fn}{i:Nat}{r:List Int}(h:Chn f i r):TopOk p vs f i r↔TopE p vs f i:=⟨fun q=>⟨r,h,q⟩,fun⟨r',h',q⟩=>h.uniq h'▸q⟩
theorem slotB_node{f:Fn}{x:Int}{l:ByteArray}{n:Nat}(h:slotB f x l n=true)(h0:0≤x):x<f.nodes.length:=by
 unfold slotB at h;rw[if_neg (by omega)]at h;simp only[Bool.and_eq_true]at h;exact(uJ h.1).2
theorem slots_node{p:Prg}{vs:List Vs}{f:Fn}{s:Ste}{mi pc n:Nat}{b:Int}(h:SlotsOk p vs f s mi pc b n){x:Int}(hx:x∈s.locals∨x∈s.stack)(h0:0≤x):x<f.nodes.length:=by
 rcases hx with hx|hx
 ·obtain⟨k,hk,e⟩:=List.getElem_of_mem hx;have:=h.loc k hk;have eg:s.locals.getD k 0=x:=by rw[List.getD_eq_getElem?_getD,List.getElem?_eq_getElem hk];exact e
  rw[eg]at this;split at this
  ·exact slotB_node this h0
  ·omega
 ·obtain⟨k,hk,e⟩:=List.getElem_of_mem hx;have:=h.stk k hk;have eg:s.stack.getD k 0=x:=by rw[List.getD_eq_getElem?_getD,List.getElem?_eq_getElem hk];exact e
  rw[eg]at this;exact slotB_node this h0
theorem inB_neg{i:Int}{n:Nat}(h:i<0):inB i n=false:=by unfold inB;simp;omega
theorem nam_node{p:Prg}{vs:List Vs}{f:Fn}{n:Nat}:∀(i:Nat) (b:Int) (fst:Bool),Hds p vs f i b→SlAll p vs f n i b→(fst=true→∀k,k<(stAt f i).virts.length→VtOk p f n ((stAt f i).virts.getD k default))→∀x∈namF f (i+1) i fst,0≤x→x<f.nodes.length:=by
 intro i;induction i using Nat.strongRecOn with
 |_ i ih=>
  intro b fst hh hs hv x hx h0;obtain⟨hi,-,hn⟩:=hh.at;have hin:inB (i:Int) f.states.length=true:=by unfold inB;simp;omega
  have e:=namF_at (b:=fst) hin;rw[Int.toNat_natCast]at e;rw[e,List.mem_append,List.mem_append,List.mem_append]at hx;rcases hx with(((hx|hx)|hx)|hx)
  ·exact slots_node hs.ok (.inl hx) h0
  ·exact slots_node hs.ok (.inr hx) h0
  ·cases fst with
   |false=>simp at hx
   |true=>
    rw[if_pos rfl,List.mem_flatMap]at hx;obtain⟨v,hv1,hv2⟩:=hx;obtain⟨k,hk,e⟩:=List.getElem_of_mem hv1;have h2:=hv rfl k hk;have eg:(stAt f i).virts.getD k default=v:=by rw[List.getD_eq_getElem?_getD,List.getElem?_eq_getElem hk];exact e
    rw[eg]at h2;obtain⟨j,hj,e2⟩:=List.getElem_of_mem hv2;have h3:=h2.2.2 j hj;have eg2:v.fields.getD j 0=x:=by rw[List.getD_eq_getElem?_getD,List.getElem?_eq_getElem hj];exact e2
    rw[eg2]at h3;exact slotB_node h3 h0
  ·rcases hn with hu|⟨u,hu,hlt,hh2⟩
   ·rw[if_neg (by omega),namF_out (inB_neg hu)]at hx;cases hx
   ·rw[if_neg (by omega),hu,Int.toNat_natCast]at hx;exact ih u hlt _ false hh2 (hs.up hu) (fun q=>by cases q) x hx h0
structure StatesOk(p:Prg)(vs:List Vs)(f:Fn)(blk plc:List Int):Prop where
 top:∀i,i<f.nodes.length→0≤(ndAt f i).st→headsB p vs f ((ndAt f i).st.toNat+1) (ndAt f i).st.toNat=true∧TopE p vs f (ndAt f i).st.toNat
 has:∀i,i<f.nodes.length→0≤(ndAt f i).st→HasOk p f blk plc i
theorem ChkAt.direct{w:World}{S:Nat→Prop}{gc gv:Nat}{p:Prg}{vs:List Vs}{f:Fn}{Ac Am An Ab As:Option Addr}{cc cm cn cb cs:Nat}{bv qv tv lv dv:Value}(h:ChkAt w S gc gv p vs f Ac cc Am cm An cn Ab cb As cs bv qv tv lv dv)(v:Value):ChkAt (w.setCell ⟨gc,12,none⟩ v) S gc gv p vs f Ac cc Am cm An cn Ab cb As cs bv qv tv lv v:=by
 have hk:KB (fun b=>S b∨b=gv) w (w.setCell ⟨gc,12,none⟩ v):=(KB.refl _ w).set (by
  show¬(S gc∨gc=gv)
  rintro(hs|e)
  ·exact(h.lt gc hs).2.1 rfl
  ·exact h.gv.2 e.symm) v
 have hk':Kept S w (w.setCell ⟨gc,12,none⟩ v):=(hk.sub (fun b hb=>.inl hb)).kept;have b:=h.blk.set_ 12 v;simp only[List.setIfInBounds_toArray,List.set_cons_zero,List.set_cons_succ]at b;exact⟨b,h.prg.keep hk',h.fn.keep hk',h.inf.kb hk (by simp),fun b hs=>⟨by simpa using(h.lt b hs).1,(h.lt b hs).2⟩,⟨by simpa using h.gv.1,h.gv.2⟩,h.cap⟩
structure StsIn(w:World)(S:Nat→Prop)(gc gv gl:Nat)(p:Prg)(vs:List Vs)(f:Fn)(gb gp gt gi gd:Nat)(blk plc idm dep:List Int)(dv:Value):Prop where
 si:StandsIn w S gc gv p vs f gb gp gt gi gd blk plc idm dep (.map (some gl)) dv
 map:VMap Tryz.prog w 3 gl 0 (fun _=>none)
 tz:Tz w
 lo:(13+1)≤gv∧(13+1)≤gl∧(13+1)≤gc
 ne:gl≠gv∧gl≠gc∧∀b,S b→b≠gl
 far:∀b,b=gb∨b=gp∨b=gt∨b=gi∨b=gd→b<w.heap.size∧b≠gl∧b≠gv∧b≠gc
 pin:PIn p vs
 ver:Vers p vs
 bnd:∀j,StBnd (stAt f j)
 sts:f.states.length≤4000
 code:∀k,k<p.methods.length→(mthAt p k).code.length≤1000
section
variable {w w':World} {S:Nat→Prop} {gc gv gl B0:Nat} {p:Prg} {vs:List Vs} {f:Fn} {gb gp gt gi gd:Nat} {blk plc idm dep:List Int} {dv dv':Value}
theorem StandsIn.move(h:StandsIn w S gc gv p vs f gb gp gt gi gd blk plc idm dep (.map (some gl)) dv)(hc:Chk w' S gc gv p vs f (.slice (some ⟨gb,0,none⟩) f.nodes.length f.nodes.length) (.slice (some ⟨gp,0,none⟩) f.nodes.length f.nodes.length) (.pointer (some ⟨gt,0,none⟩)) (.map (some gl)) dv')
 (hk:KB (fun b=>b=gb∨b=gp∨b=gt∨b=gi∨b=gd) w w')(hz:w.heap.size≤w'.heap.size):StandsIn w' S gc gv p vs f gb gp gt gi gd blk plc idm dep (.map (some gl)) dv':=
 ⟨⟨hc,h.nin.bb.kb hk (.inl rfl),h.nin.st,h.nin.mth,h.nin.cls,h.nin.mts,h.nin.nd,h.nin.kinds,h.nin.prs⟩,h.bp.kb hk (.inr (.inl rfl)),h.tree.kb hk (.inr (.inr (.inl rfl))) (.inr (.inr (.inr (.inl rfl)))) (.inr (.inr (.inr (.inr rfl)))),h.ok,h.blocks,h.nodes,h.nb,h.args,⟨Nat.lt_of_lt_of_le h.lt.1 hz,Nat.lt_of_lt_of_le h.lt.2.1 hz,Nat.lt_of_lt_of_le h.lt.2.2 hz⟩⟩
theorem StandsIn.state{lv:Value}(h:StandsIn w S gc gv p vs f gb gp gt gi gd blk plc idm dep lv dv){i:Nat}(hi:i<f.nodes.length)(h0:0≤(ndAt f i).st):(ndAt f i).st<f.states.length:=by
 obtain⟨fm,_,h2⟩:=h.nodes i hi;have:=h2.st
 by_cases e:fm.st=true
 ·rw[if_pos e]at this;exact(uJ this).2
 ·rw[if_neg e]at this;omega
end
def StPost(w:World)(S:Nat→Prop)(gc gv gl:Nat)(p:Prg)(vs:List Vs)(b:Bool)(e:Ending)(w':World):Prop:=e=.returned (.bool b)∧InfoG w' S gv p vs∧KX (fun b=>b=gc∨b=gv∨b=gl) w w'
def DirB(f:Fn)(n:Nat)(us:List Bool):Prop:=us.length=f.states.length∧∀j,us.getD j false=true↔j<f.states.length∧∃k,k<n∧(ndAt f k).st=(j:Int)
theorem DirB.next{f:Fn}{n:Nat}{us:List Bool}(h:DirB f n us){j:Nat}(hj:j<f.states.length)(hs:(ndAt f n).st=(j:Int)):DirB f (n+1) (us.set j true):=by
 refine⟨by simpa using h.1,fun q=>?_⟩;rw[getD_set]
 by_cases e:q=j
 ·subst e;rw[if_pos ⟨rfl,by rw[h.1];exact hj⟩];exact⟨fun _=>⟨hj,n,by omega,hs⟩,fun _=>rfl⟩
 ·rw[if_neg (fun a=>e a.1),h.2 q];constructor
  ·rintro⟨a,k,b,c⟩;exact⟨a,k,by omega,c⟩
  ·rintro⟨a,k,b,c⟩;refine⟨a,k,?_,c⟩
   by_cases e2:k=n
   ·subst e2;omega
   ·omega
theorem DirB.skip{f:Fn}{n:Nat}{us:List Bool}(h:DirB f n us)(hs:(ndAt f n).st<0):DirB f (n+1) us:=by
 refine⟨h.1,fun q=>?_⟩;rw[h.2 q];constructor
 ·rintro⟨a,k,b,c⟩;exact⟨a,k,by omega,c⟩
 ·rintro⟨a,k,b,c⟩;refine⟨a,k,?_,c⟩
  by_cases e2:k=n
  ·subst e2;omega
  ·omega
section
variable {w w2 wB wx:World} {S:Nat→Prop} {gc gv gl gD:Nat} {p:Prg} {vs:List Vs} {f:Fn} {bv qv tv dv:Value}
theorem kx_all(hg2:w.grownBy w2 (some gc))(hgr:w2.grownBy wB (some gD))(hD:w.heap.size≤gD)(hf:Fr wB.heap.size gv gl wB wx):KX (fun b=>b=gc∨b=gv∨b=gl) w wx:=
 ⟨hf.os.trans (hgr.os.trans hg2.os),hf.tape.trans (hgr.tape.trans hg2.tape),hf.output.trans (hgr.output.trans hg2.output),Nat.le_trans hg2.size (Nat.le_trans hgr.size hf.size),fun b hb hx=>by
  have h1:=Nat.lt_of_lt_of_le hb hg2.size;have h2:=Nat.lt_of_lt_of_le h1 hgr.size;exact(hf.block b h2 (fun e=>hx (.inr (.inl e))) (fun e=>hx (.inr (.inr e))) (.inl h2)).trans ((hgr.block b h1 (fun e=>by have:=Option.some.inj e;omega)).trans (hg2.block b hb (fun e=>hx (.inl (Option.some.inj e)))))⟩
theorem Sts.start(hc:Chk w S gc gv p vs f bv qv tv (.map (some gl)) dv)(hm:VMap Tryz.prog w 3 gl 0 (fun _=>none))(ht:Tz w)(hlo:(13+1)≤gv∧(13+1)≤gl)(hne:gl≠gv∧gl≠gc∧∀b,S b→b≠gl):Sts w S gc gv gl w.heap.size p vs f bv qv tv dv:=by
 have hl:=hm.lt;obtain⟨Ac,cc,Am,cm,An,cn,Ab,cb,As,cs,hC⟩:=id hc;have h0:cntF (fun _=>none) p.methods.length=0:=by unfold cntF;simp
 have h1:valF (fun _=>none)=fun _=>none:=by funext x;unfold valF;split<;>rfl
 exact⟨fun _=>none,hc,by rw[h0,h1];exact hm,⟨hC.blk.lt,hC.gv.1,hl,by omega,hlo.1,Nat.le_refl _,hne.1,hne.2.1,fun b q=>⟨(hC.lt b q).1,hne.2.2 b q⟩⟩,hlo.2,ht,fun i g e=>by(cases e),fun i j g e=>by(cases e)⟩
end
open Classical in
theorem states_any{w:World}{S:Nat→Prop}{gc gv gl:Nat}{p:Prg}{vs:List Vs}{f:Fn}{gb gp gt gi gd:Nat}{blk plc idm dep:List Int}{dv:Value}(h:StsIn w S gc gv gl p vs f gb gp gt gi gd blk plc idm dep dv):
 Calls Tryz.prog 25 #[.pointer (some ⟨gc,0,none⟩)] w (StPost w S gc gv gl p vs (decide (StatesOk p vs f blk plc))):=by
 have HPt:=eh (fun w' (h0:StatesOk p vs f blk plc) (h1:InfoG w' S gv p vs) (h2:KX (fun b=>b=gc∨b=gv∨b=gl) w w')=>(show StPost w S gc gv gl p vs (decide (StatesOk p vs f blk plc)) (.returned (.bool true)) w' from⟨by rw[decide_eq_true h0],h1,h2⟩));have HPf:=eh (fun w' (h0:¬StatesOk p vs f blk plc) (h1:InfoG w' S gv p vs) (h2:KX (fun b=>b=gc∨b=gv∨b=gl) w w')=>(show StPost w S gc gv gl p vs (decide (StatesOk p vs f blk plc)) (.returned (.bool false)) w' from⟨by rw[decide_eq_false h0],h1,h2⟩));generalize StPost w S gc gv gl p vs (decide (StatesOk p vs f blk plc))=Post at*;have H0:=eh h;obtain⟨Ac,cc,Am,cm,An,cn,Ab,cb,As,cs,hC⟩:=h.si.nin.chk;have hN:=h.si.nin.nd;have hS:=h.sts;have hm2:=fun W=>run_make_row' (P:=Tryz.prog) 98 4 (.bool false) 1 Tryz.underlying98 infoBoolV rfl .i64 .i64 f.states.length (by omega) (by omega) W
 rw[made_bools]at hm2;have ea:(⟨(List.replicate f.states.length false).map Value.bool⟩:Array Value)=Array.replicate f.states.length (Value.bool false):=by simp
 rw[ea]at hm2;have c7:w.cell? ⟨gc,7,none⟩=some (.slice As f.states.length cs):=hC.blk.cell 7;have lC:=hC.blk.lt;have hC1:=hC.kb (KB.of_below ((Below.refl w.heap.size w).alloc (Nat.le_refl _) (.cells (Array.replicate f.states.length (Value.bool false)) 4)) (fun b hb=>hb.elim (fun h=>(hC.lt b h).1) (fun h=>h.elim (fun e=>e▸hC.gv.1) (fun e=>e▸hC.blk.lt)))) (by simp);have bD:=Blk.new w 4 (Array.replicate f.states.length (Value.bool false));have hg1:=World.grownBy_alloc w (.cells (Array.replicate f.states.length (Value.bool false)) 4) (some gc);have c12:World.cell? _ ⟨gc,12,none⟩=some dv:=hC1.blk.cell 12;have f12:=hC1.blk.frozen 12;have lC1:=hC1.blk.lt;clear h;go_enter Tryz.func25,Tryz.ntmps25;go_upto_region 2 with(fail);have hzs:(w.setCell ⟨gc,12,none⟩ (.slice (some ⟨w.heap.size,0,none⟩) f.states.length f.states.length)).heap.size=w.heap.size:=by simp
 have hC1':=hC.direct (.slice (some ⟨w.heap.size,0,none⟩) f.states.length f.states.length);have hC2:=hC1'.kb (KB.of_below ((Below.refl _ _).alloc (Nat.le_refl _) (.cells (Array.replicate f.states.length (Value.bool false)) 4)) (fun b hb=>hb.elim (fun h=>(hC1'.lt b h).1) (fun h=>h.elim (fun e=>e▸hC1'.gv.1) (fun e=>e▸hC1'.blk.lt)))) (by simp);have bD2:=Blk.newAt hzs 4 (Array.replicate f.states.length (Value.bool false));have hg2:=(uA w ⟨gc,12,none⟩ (.slice (some ⟨w.heap.size,0,none⟩) f.states.length f.states.length)).trans (World.grownBy_alloc _ (.cells (Array.replicate f.states.length (Value.bool false)) 4) (some gc));have HDl:=eh (show gc<w.heap.size∧gv<w.heap.size∧∀b,S b→b<w.heap.size from⟨lC,hC.gv.1,fun b q=>(hC.lt b q).1⟩);clear hC1 hC1' bD hg1 c12 f12 lC1 c7 lC hzs;obtain⟨gD,hgd⟩:∃gD,gD=w.heap.size:=⟨_,rfl⟩;rw[←hgd]at hC2 bD2 hg2 HDl⊢;have Hgd:=eh hgd;clear hgd;generalize(w.setCell ⟨gc,12,none⟩ (.slice (some ⟨gD,0,none⟩) f.states.length f.states.length)).alloc (.cells (Array.replicate f.states.length (Value.bool false)) 4)=w2 at*;have HC2:=eh hC2;rw[←ea]at bD2;have HD2:=eh bD2;clear ea;have HG2:=eh hg2;have HSI2:=eh (H0.out.si.move ⟨_,_,_,_,_,_,_,_,_,_,hC2⟩ (KB.of_grown hg2 (fun b hb=>(H0.out.far b hb).1) (fun b hb e=>(H0.out.far b hb).2.2.2 (Option.some.inj e))) hg2.size);have HM2:=eh (H0.out.map.kept hg2 (fun e=>H0.out.ne.2.1 (Option.some.inj e)));have HT2:=eh (H0.out.tz.grown hg2 (by show 13≠gc;have:=H0.out.lo.2.2;omega));have HDir0:=eh (show DirB f 0 (List.replicate f.states.length false)from⟨by simp,fun j=>⟨fun e=>by(simp only[List.getD_eq_getElem?_getD,List.getElem?_replicate]at e;split at e<;>cases e),fun⟨_,k,hk,_⟩=>by omega⟩⟩);have c5:w2.cell? ⟨gc,5,none⟩=some (.slice An f.nodes.length cn):=hC2.blk.cell 5;have lC2:=hC2.blk.lt;clear hC hC2 bD2 hg2;go_wp2;go_loopw [25] (fun iv wr=>∃(i:Nat) (us:List Bool),i≤f.nodes.length∧iv=.int .i64 i∧Hid (w2.grownBy wr (some gD))∧Hid (Blk wr gD 4 ⟨us.map .bool⟩)∧Hid (DirB f i us)) (fun iv _=>f.nodes.length-(intOf iv).toNat)
 case atStart=>exact⟨0,_,Nat.zero_le _,rfl,eh ⟨rfl,rfl,rfl,Nat.le_refl _,fun _ _ _=>rfl⟩,HD2,HDir0⟩
 case round=>
  clear c5 lC2 HDir0;obtain⟨i,us,hi,rfl,HG,HD,HU⟩:=hrel;have hCr:=HC2.out.kb (KB.of_grown HG.out (fun b hb=>hb.elim (fun h=>(HC2.out.lt b h).1) (fun h=>h.elim (fun e=>e▸HC2.out.gv.1) (fun e=>e▸HC2.out.blk.lt))) (fun b hb e=>by
   have e2:=Option.some.inj e;obtain⟨a1,a2,a3⟩:=HDl.out;rcases hb with q|q|q
   ·have:=a3 b q;omega
   ·omega
   ·omega)) HG.out.size
  by_cases hlt:i<f.nodes.length
  ·have i0:(0:Int)≤i:=by omega
   have i1:(i:Int)<f.nodes.length:=by omega
   have c5:wr.cell? ⟨gc,5,none⟩=some (.slice An f.nodes.length cn):=hCr.blk.cell 5;obtain⟨bn,on_,A1,c1n,hAn,hSn,v0,v1,v2,v3,v4,v5,v6,-⟩:=rd_nd hCr.fn.nodes hlt;subst hAn;have lbn:=(hCr.lt bn hSn).1;have HSt:=eh (fun h0=>HSI2.out.state hlt h0);have HU1:=eh (fun(q:Nat) (h1:q<f.states.length) (h2:(ndAt f i).st=(q:Int))=>HU.out.next h1 h2);have HU2:=eh (fun(h2:(ndAt f i).st<0)=>HU.out.skip h2);have HCr:=eh hCr;unfold ndAt at HSt HU1 HU2;generalize f.nodes.getD i default=x at*;have bX:=Blk.new wr 40 #[.int .i64 x.op,.int .i64 x.a,.int .i64 x.b,.int .i64 x.st,.string x.kind,.int .i64 x.n,.slice A1 x.args.length c1n];have hgX:=World.grownBy_alloc wr (.cells #[.int .i64 x.op,.int .i64 x.a,.int .i64 x.b,.int .i64 x.st,.string x.kind,.int .i64 x.n,.slice A1 x.args.length c1n] 40) (some gD);have hbX:=(Below.refl wr.heap.size wr).alloc (Nat.le_refl _) (.cells #[.int .i64 x.op,.int .i64 x.a,.int .i64 x.b,.int .i64 x.st,.string x.kind,.int .i64 x.n,.slice A1 x.args.length c1n] 40);have bDX:=HD.out.alloc (.cells #[.int .i64 x.op,.int .i64 x.a,.int .i64 x.b,.int .i64 x.st,.string x.kind,.int .i64 x.n,.slice A1 x.args.length c1n] 40);have Hlt:=eh hlt;clear hCr hlt
   by_cases h0:0≤x.st
   ·obtain⟨j,hj⟩:∃j:Nat,x.st=j:=⟨x.st.toNat,by omega⟩;have hjl:j<f.states.length:=by have:=HSt.out h0;omega
    have HU3:=eh (HU1.out j hjl hj);have j1:(j:Int)<f.states.length:=by omega
    have hul:=HU.out.1;rw[hj]at v3 bX hgX hbX bDX;clear h0 HU1 HU2 HSt hj;go_upto_region 6 with(fail);obtain⟨gx,hgx⟩:∃gx,gx=wr.heap.size:=⟨_,rfl⟩;rw[←hgx]at bX⊢;generalize wr.alloc (.cells #[.int .i64 x.op,.int .i64 x.a,.int .i64 x.b,.int .i64 (j:Int),.string x.kind,.int .i64 x.n,.slice A1 x.args.length c1n] 40)=w4 at*;have hC4:=HCr.out.below hbX;refine uE (S:=fun W=>W.cell? ⟨gc,12,none⟩=some (.slice (some ⟨gD,0,none⟩) f.states.length f.states.length)∧W.cell? ⟨gx,3,none⟩=some (.int .i64 (j:Int))) (fun q=>decide (q≤6)) (by kernel_rfl) ⟨hC4.blk.cell 12,bX.at3⟩ (fun HS=>?_);have fz:=bDX.frozen j;have y0:=bools_cell bDX (k:=j) (by omega);have hD3:=bools_put bDX j true;have hgD:=uA w4 ⟨gD,j,none⟩ (.bool true);clear v0 v1 v2 v3 v4 v5 v6 lbn c5 hgx hC4 bX hbX
    iterate 7 (refine uO rfl rfl HS (.inl ⟨rfl,fun W hW=>by obtain⟨h0,h1⟩:=hW;go_simp;rfl⟩) ?_;simp only[pS])
    refine uP rfl rfl (fun K HK=>?_);go_simp;refine HK.out _ _ (fun h=>by cases h) ?_;clear HK HS;simp only[pS];refine uD (by kernel_rfl) ?_ _;have hG4:=((HG.out.trans hgX).trans hgD).trans (gDrew _ (some gD));have HG4:=eh hG4;have HD4:=eh hD3.drew;clear fz y0 hD3 hgD hG4 hgX bDX;go_wp2;go_roundw
    case rel=>exact⟨i+1,us.set j true,Hlt.out,by go_num,HG4,HD4,HU3⟩
    case measure=>have:=Hlt.out;simp[intOf];omega
   ·have HU3:=eh (HU2.out (by omega));have HG4:=eh (HG.out.trans hgX);have HD4:=eh bDX;clear HU1 HU2 HSt hgX bDX hbX;have g0:decide ((0:Int)≤x.st)=false:=by simpa using h0
    clear h0;go_wp2;go_roundw
    case rel=>exact⟨i+1,us,Hlt.out,by go_num,HG4,HD4,HU3⟩
    case measure=>have:=Hlt.out;simp[intOf];omega
  ·have hge:¬(i:Int)<f.nodes.length:=by omega
   have ei:i=f.nodes.length:=by omega
   have HUn:=eh (show DirB f f.nodes.length us from ei▸HU.out);have hgD:=HDl.out;have hCB:Chk wr S gc gv p vs f (.slice (some ⟨gb,0,none⟩) f.nodes.length f.nodes.length) (.slice (some ⟨gp,0,none⟩) f.nodes.length f.nodes.length) (.pointer (some ⟨gt,0,none⟩)) (.map (some gl)) (.slice (some ⟨gD,0,none⟩) f.states.length f.states.length):=⟨_,_,_,_,_,_,_,_,_,_,hCr⟩;have hml:=H0.out.map.lt;have hnl:gl≠gD:=by have:=Hgd.out;omega
   have HSt0:=eh (Sts.start hCB (HM2.out.kept HG.out (fun e=>hnl (Option.some.inj e))) (HT2.out.grown HG.out (by show 13≠gD;have:=H0.out.tz.1;have:=Hgd.out;show(13:Nat)≠gD;omega)) ⟨H0.out.lo.1,H0.out.lo.2.1⟩ H0.out.ne);have HSIB:=eh (HSI2.out.move hCB (KB.of_grown HG.out (fun b hb=>Nat.lt_of_lt_of_le (H0.out.far b hb).1 HG2.out.size) (fun b hb e=>by have:=(H0.out.far b hb).1;have:=Option.some.inj e;have:=Hgd.out;omega)) HG.out.size);have lgD:=HD.out.lt;have HFar:=eh (fun b (hb:b=gb∨b=gp∨b=gt∨b=gi∨b=gd)=>(show b<wr.heap.size∧b≠gv∧b≠gl from⟨Nat.lt_of_lt_of_le (H0.out.far b hb).1 (Nat.le_trans HG2.out.size HG.out.size),(H0.out.far b hb).2.2.1,(H0.out.far b hb).2.1⟩));have HDne:=eh (show gD≠gv∧gD≠gl from⟨by have:=hgD.2.1;omega,fun e=>hnl e.symm⟩);have HKX:=eh (fun w' (hf:Fr wr.heap.size gv gl wr w')=>kx_all (gc:=gc) HG2.out HG.out (Nat.le_of_eq Hgd.out.symm) hf);have HIn:=eh (fun w' (hs:Sts w' S gc gv gl wr.heap.size p vs f (.slice (some ⟨gb,0,none⟩) f.nodes.length f.nodes.length) (.slice (some ⟨gp,0,none⟩) f.nodes.length f.nodes.length) (.pointer (some ⟨gt,0,none⟩)) (.slice (some ⟨gD,0,none⟩) f.states.length f.states.length))=>(show InfoG w' S gv p vs from by obtain⟨F,h⟩:=hs;obtain⟨_,_,_,_,_,_,_,_,_,_,h2⟩:=h.chk;exact h2.inf));have HBlk:=eh hCr.blk;have HRn:=eh hCr.fn.nodes;have HSl:=eh (fun b (q:S b)=>(show b<wr.heap.size∧b≠gv∧b≠gl from⟨(hCr.lt b q).1,(hCr.lt b q).2.2,fun e=>H0.out.ne.2.2 b q e⟩));have d12:wr.cell? ⟨gc,12,none⟩=some (.slice (some ⟨gD,0,none⟩) f.states.length f.states.length):=hCr.blk.cell 12;have lCr:=hCr.blk.lt;have hul:=HU.out.1;clear hlt hCr hCB hgD hnl hml ei HU HG HSI2 HM2 HT2;go_wp2;clear d12 lCr hge;obtain⟨B0,hB0⟩:∃B0,B0=wr.heap.size:=⟨_,rfl⟩;have HB0:=eh hB0;rw[←hB0]at HSt0 HFar HKX HIn HSl;obtain⟨wB,hwB⟩:∃wB,wB=wr:=⟨_,rfl⟩;rw[←hwB]at HSt0 HSIB HKX HD hB0 HB0 lgD HBlk HRn;have HFr0:=eh (show Fr B0 gv gl wB wr from hwB▸Fr.refl _ _ _ _);have HSt1:Hid (Sts wr S gc gv gl B0 p vs f (.slice (some ⟨gb,0,none⟩) f.nodes.length f.nodes.length) (.slice (some ⟨gp,0,none⟩) f.nodes.length f.nodes.length) (.pointer (some ⟨gt,0,none⟩)) (.slice (some ⟨gD,0,none⟩) f.states.length f.states.length)):=hwB▸HSt0;clear hB0 hwB HSt0;go_loopw [45] (fun iv wx=>∃j:Nat,j≤f.states.length∧iv=.int .i64 j∧Hid (Sts wx S gc gv gl B0 p vs f (.slice (some ⟨gb,0,none⟩) f.nodes.length f.nodes.length) (.slice (some ⟨gp,0,none⟩) f.nodes.length f.nodes.length) (.pointer (some ⟨gt,0,none⟩)) (.slice (some ⟨gD,0,none⟩) f.states.length f.states.length))∧Hid (Fr B0 gv gl wB wx)∧Hid (∀q,q<j→us.getD q false=true→headsB p vs f (q+1) q=true∧TopE p vs f q)) (fun iv _=>f.states.length-(intOf iv).toNat)
   case atStart=>exact⟨0,Nat.zero_le _,rfl,HSt1,HFr0,eh (fun q hq=>by omega)⟩
   case round=>
    clear HSt1 HFr0;obtain⟨j,hj,rfl,HS,HF,HT⟩:=hrel
    by_cases hjl:j<f.states.length
    ·have hDc:wr.cell? ⟨gD,j,none⟩=some (.bool (us.getD j false)):=by
      have h1:=bools_cell HD.out (k:=j) (by omega);have h2:us.getD j true=us.getD j false:=by rw[List.getD_eq_getElem?_getD,List.getD_eq_getElem?_getD,List.getElem?_eq_getElem (by omega)];rfl
      rw[h2]at h1;exact(World.cell?_of_block (a:=⟨gD,j,none⟩) (HF.out.low (Nat.le_of_eq HB0.out) (by rw[HB0.out];exact HD.out.lt) HDne.out.1 HDne.out.2)).trans h1
     have lD:gD<wr.heap.size:=Nat.lt_of_lt_of_le HD.out.lt HF.out.size;have j1:(j:Int)<f.states.length:=by omega
     have HNx:=eh (fun(h:us.getD j false=true→headsB p vs f (j+1) j=true∧TopE p vs f j)=>(show∀q,q<j+1→us.getD q false=true→headsB p vs f (q+1) q=true∧TopE p vs f q from fun q hq=>by
      by_cases e:q=j
      ·subst e;exact h
      ·exact HT.out q (by omega)))
     have HNo:=eh (fun(hu:us.getD j false=true) (h:¬(headsB p vs f (j+1) j=true∧TopE p vs f j))=>(show¬StatesOk p vs f blk plc from fun q=>by
      obtain⟨-,k,hk,e⟩:=(HUn.out.2 j).1 hu;have:=q.top k hk (by rw[e];omega);rw[e,Int.toNat_natCast]at this;exact h this))
     have Hjl:=eh hjl;obtain⟨u,hu⟩:∃u,us.getD j false=u:=⟨_,rfl⟩;rw[hu]at hDc HNx HNo;clear hu;cases u with
     |false=>
      have HT2:=eh (HNx.out (fun e=>by cases e));go_wp2;go_roundw
      case rel=>exact⟨j+1,Hjl.out,by go_num,HS,HF,HT2⟩
      case measure=>have:=Hjl.out;simp[intOf];omega
     |true=>
      have Hh:=eh (heads_any HS.out H0.out.pin hjl);obtain⟨r,hr⟩:∃r,r=headsB p vs f (j+1) j:=⟨_,rfl⟩;rw[←hr]at Hh;have Hr:=eh hr;clear hr;go_wp2_with fail;refine Hh.out.mono ?_;rintro e w5 ⟨rfl,hs5,hf5⟩;have HS5:=eh hs5;have HF5:=eh (HF.out.trans hf5);clear Hh hs5 hf5 hDc lD;cases r with
      |false=>
       have HR:=eh (HPf.out w5 (HNo.out (by first|rfl|trivial) (fun q=>by rw[←Hr.out]at q;cases q.1)) (HIn.out _ HS5.out) (HKX.out _ HF5.out));go_wp2;exact HR.out
      |true=>
       have hda:=heads_at H0.out.ver j Hjl.out Hr.out.symm (-1) (fun h=>by omega);obtain⟨hds,rts,hch⟩:=hda;have Ht:=eh (topmost_any HS5.out H0.out.pin hds hch H0.out.bnd);obtain⟨r2,hr2⟩:∃r2,r2=decide (TopOk p vs f j rts):=⟨_,rfl⟩;rw[←hr2]at Ht;have Hr2:=eh hr2;have HTi:=eh (top_iff (p:=p) (vs:=vs) hch);clear hr2 hds hch;go_wp2_with fail;refine Ht.out.mono ?_;rintro e w6 ⟨rfl,hs6,hf6⟩;have HS6:=eh hs6;have HF6:=eh (HF5.out.trans hf6);clear Ht hs6 hf6 HS5 HF5;cases r2 with
       |false=>
        have HR:=eh (HPf.out w6 (HNo.out (by first|rfl|trivial) (fun q=>by have e:=Hr2.out;rw[decide_eq_true (HTi.out.2 q.2)]at e;cases e)) (HIn.out _ HS6.out) (HKX.out _ HF6.out));go_wp2;exact HR.out
       |true=>
        have HT2:=eh (HNx.out (fun _=>⟨Hr.out.symm,HTi.out.1 (of_decide_eq_true Hr2.out.symm)⟩));go_wp2;go_roundw
        case rel=>exact⟨j+1,Hjl.out,by go_num,HS6,HF6,HT2⟩
        case measure=>have:=Hjl.out;simp[intOf];omega
    ·have hge:¬(j:Int)<f.states.length:=by omega
     have HTop:=eh (show∀i,i<f.nodes.length→0≤(ndAt f i).st→headsB p vs f ((ndAt f i).st.toNat+1) (ndAt f i).st.toNat=true∧TopE p vs f (ndAt f i).st.toNat from fun i hi h0=>by
      have h1:=HSIB.out.state hi h0;exact HT.out _ (by omega) ((HUn.out.2 _).2 ⟨by omega,i,hi,by omega⟩))
     have hgc:gc<B0:=by rw[HB0.out];exact HBlk.out.lt
     have HBw:=eh (fun w' (hf:Fr B0 gv gl wB w')=>(show Blk w' gc _ _ from(hf.low (Nat.le_of_eq HB0.out) hgc (by have:=H0.out.si.nin.chk;obtain⟨_,_,_,_,_,_,_,_,_,_,h⟩:=this;exact h.gv.2.symm) (fun e=>H0.out.ne.2.1 e.symm)).trans HBlk.out));have HKp:=eh (fun w' (hf:Fr B0 gv gl wB w')=>(fun q hq=>World.cell?_of_block (hf.low (Nat.le_of_eq HB0.out) (HSl.out _ hq).1 (HSl.out _ hq).2.1 (HSl.out _ hq).2.2):Kept S wB w'));have hB5:=HBw.out _ HF.out;have c5:wr.cell? ⟨gc,5,none⟩=some (.slice An f.nodes.length cn):=hB5.cell 5;have lC5:=hB5.lt;clear hjl hB5 hgc;go_wp2;clear c5 lC5 hge;go_loopw [69] (fun iv wx=>∃i:Nat,i≤f.nodes.length∧iv=.int .i64 i∧Hid (Sts wx S gc gv gl B0 p vs f (.slice (some ⟨gb,0,none⟩) f.nodes.length f.nodes.length) (.slice (some ⟨gp,0,none⟩) f.nodes.length f.nodes.length) (.pointer (some ⟨gt,0,none⟩)) (.slice (some ⟨gD,0,none⟩) f.states.length f.states.length))∧Hid (Fr B0 gv gl wB wx)∧Hid (∀q,q<i→0≤(ndAt f q).st→HasOk p f blk plc q)) (fun iv _=>f.nodes.length-(intOf iv).toNat)
     case atStart=>exact⟨0,Nat.zero_le _,rfl,HS,HF,eh (fun q hq=>by omega)⟩
     case round=>
      clear HS HF HT;obtain⟨i,hi,rfl,HS,HF,HA⟩:=hrel
      by_cases hlt:i<f.nodes.length
      ·have i0:(0:Int)≤i:=by omega
       have i1:(i:Int)<f.nodes.length:=by omega
       obtain⟨bn,on_,A1,c1n,hAn,hSn,v0,v1,v2,v3,v4,v5,v6,-⟩:=rd_nd (HRn.out.keep (HKp.out _ HF.out)) hlt;subst hAn;have lbn:bn<wr.heap.size:=by have:=(HSl.out bn hSn).1;have:=HB0.out;have:=HF.out.size;omega
       have Hlt:=eh hlt;have HA1:=eh (fun(h:0≤(ndAt f i).st→HasOk p f blk plc i)=>(show∀q,q<i+1→0≤(ndAt f q).st→HasOk p f blk plc q from fun q hq=>by
        by_cases e:q=i
        ·subst e;exact h
        ·exact HA.out q (by omega)))
       have HNo:=eh (fun(h0:0≤(ndAt f i).st) (h:¬HasOk p f blk plc i)=>(show¬StatesOk p vs f blk plc from fun q=>h (q.has i hlt h0)));have HHas:=eh (fun(h0:0≤(ndAt f i).st) w' (hb:Below wr.heap.size wr w')=>(show Calls Tryz.prog 54 #[.pointer (some ⟨gc,0,none⟩),.int .i64 i,ndv (ndAt f i) A1 c1n] w' (DecPost w' (HasOk p f blk plc i))from by
        obtain⟨F,hs⟩:=HS.out;obtain⟨t1,rts,hch,t2⟩:=HTop.out i hlt h0;obtain⟨hds,-⟩:=heads_at H0.out.ver _ (by have:=HSIB.out.state hlt h0;omega) t1 (-1) (fun h=>by omega);have hd:=hds.at.2.1;have est:(((ndAt f i).st.toNat:Nat):Int)=(ndAt f i).st:=Int.toNat_of_nonneg h0;exact has_any ((HSIB.out.move hs.chk (fun b hb=>HF.out.low (Nat.le_of_eq HB0.out) (HFar.out b hb).1 (HFar.out b hb).2.1 (HFar.out b hb).2.2) HF.out.size).below hb)
         ⟨hlt,⟨h0,by have:=HSIB.out.state hlt h0;omega⟩,H0.out.sts,H0.out.bnd,hd.m,hd.pc,H0.out.code,fun n hn q0=>nam_node _ (-1) true hds t2.1 (fun _=>t2.2.2) n (by unfold namOf at hn;rw[est];exact hn) q0⟩ A1 c1n))
       unfold ndAt at HHas HNo HA1;generalize f.nodes.getD i default=x at*;have hbX:=(Below.refl wr.heap.size wr).alloc (Nat.le_refl _) (.cells #[.int .i64 x.op,.int .i64 x.a,.int .i64 x.b,.int .i64 x.st,.string x.kind,.int .i64 x.n,.slice A1 x.args.length c1n] 40);have bX:=Blk.new wr 40 #[.int .i64 x.op,.int .i64 x.a,.int .i64 x.b,.int .i64 x.st,.string x.kind,.int .i64 x.n,.slice A1 x.args.length c1n]
       by_cases h0:0≤x.st
       ·have Hh:=eh (HHas.out h0 _ hbX);have HN:=eh (HNo.out h0);have HY:=eh (fun(h:HasOk p f blk plc i)=>HA1.out (fun _=>h));have g0:decide ((0:Int)≤x.st)=true:=by simpa using h0
        simp only[ndv]at Hh;have HbX:=eh hbX;clear h0 hlt HHas HNo HA1 hbX;go_upto_region 17 with(fail);obtain⟨gx,hgx⟩:∃gx,gx=wr.heap.size:=⟨_,rfl⟩;rw[←hgx]at bX⊢;generalize wr.alloc (.cells #[.int .i64 x.op,.int .i64 x.a,.int .i64 x.b,.int .i64 x.st,.string x.kind,.int .i64 x.n,.slice A1 x.args.length c1n] 40)=w4 at*;have x0:=bX.at0;have x1:=bX.at1;have x2:=bX.at2;have x3:=bX.at3;have x4:w4.cell? ⟨gx,4,none⟩=some (.string x.kind):=bX.cell 4;have x5:w4.cell? ⟨gx,5,none⟩=some (.int .i64 x.n):=bX.cell 5;have x6:w4.cell? ⟨gx,6,none⟩=some (.slice A1 x.args.length c1n):=bX.cell 6;have lX:=bX.lt;clear v0 v1 v2 v3 v4 v5 v6 lbn hgx bX;go_wp2_with fail;refine Hh.out.mono ?_;clear x0 x1 x2 x3 x4 x5 x6 lX
        rintro e w5 ⟨hb5,⟨rfl,hok⟩|⟨rfl,hno⟩⟩
        ·have hB5:=HbX.out.trans (hb5.mono HbX.out.size);have HA2:=eh (HY.out hok);have HS5:=eh (HS.out.below hB5);have HF5:=eh (HF.out.trans (Fr.of_below hB5 (Nat.le_refl _)));clear hB5 hb5 hok Hh;go_wp2;go_roundw
         case rel=>exact⟨i+1,Hlt.out,by go_num,HS5,HF5,HA2⟩
         case measure=>have:=Hlt.out;simp[intOf];omega
        ·have hB5:=HbX.out.trans (hb5.mono HbX.out.size);have HR:=eh (HPf.out w5 (HN.out hno) (HIn.out _ (HS.out.below hB5)) (HKX.out _ (HF.out.trans (Fr.of_below hB5 (Nat.le_refl _)))));clear hB5 hb5 hno Hh;go_wp2;exact HR.out
       ·have g0:decide ((0:Int)≤x.st)=false:=by simpa using h0
        have HA2:=eh (HA1.out (fun h=>absurd h h0));have HS5:=eh (HS.out.below hbX);have HF5:=eh (HF.out.trans (Fr.of_below hbX (Nat.le_refl _)));clear h0 HHas HNo HA1 bX hbX;go_wp2;go_roundw
        case rel=>exact⟨i+1,Hlt.out,by go_num,HS5,HF5,HA2⟩
        case measure=>have:=Hlt.out;simp[intOf];omega
      ·have hge:¬(i:Int)<f.nodes.length:=by omega
       have HR:=eh (HPt.out wr ⟨HTop.out,fun q hq=>HA.out q (by omega)⟩ (HIn.out _ HS.out) (HKX.out _ HF.out));clear hlt;go_wp2;exact HR.out
theorem InfoG.grown{w w':World}{S:Nat→Prop}{gc gv:Nat}{p:Prg}{vs:List Vs}{f:Fn}{bv qv tv lv dv:Value}(h:Chk w S gc gv p vs f bv qv tv lv dv)(hg:w.grownBy w' (some gc)):InfoG w' S gv p vs:=by
 obtain⟨Ac,cc,Am,cm,An,cn,Ab,cb,As,cs,h⟩:=h;refine h.inf.kb (KB.of_grown hg (fun b hb=>?_) (fun b hb e=>?_)) hg.size
 ·rcases hb with hb|rfl
  ·exact(h.lt b hb).1
  ·exact h.gv.1
 ·cases e;rcases hb with hb|hb
  ·exact(h.lt gc hb).2.1 rfl
  ·exact h.gv.2 hb.symm
theorem belowB{w w':World}{B gv:Nat}(h:w.grownBy w' (some gv))(hB:B≤gv)(hgv:gv<w.heap.size):Below B w w':=
 ⟨h.os,h.tape,h.output,h.size,fun k hk=>h.block k (by omega) (fun e=>by cases e;omega)⟩
theorem cell_gt{w:World}{g o:Nat}{v:Value}(h:w.cell? ⟨g,o,none⟩=some v):g<w.heap.size:=World.block_lt_of_cell? w ⟨g,o,none⟩ h
def CkPost(w:World)(a:Nat→Addr)(S:Nat→Prop)(gv:Nat)(p:Prg)(vs:List Vs)(n:Nat)(e:Ending)(w':World):Prop:=
 e=.returned (errV a n)∧(∃S',InfoG w' S' gv p vs∧(∀b,S b→S' b)∧∀b,S' b→S b∨w.heap.size≤b)∧w.grownBy w' (some gv)
structure CkIn(w:World)(S:Nat→Prop)(gv:Nat)(p:Prg)(vs:List Vs)(f:Fn)(An Ab As:Option Addr)(cn:Nat):Prop where
 inf:InfoG w S gv p vs
 fn:RdF w S An Ab As f
 cap:f.nodes.length≤cn
 vlen:vs.length=p.methods.length
 vsz:∀i,i<vs.length→(vs.getD i default).stacks.length=(vs.getD i default).seen.length
 cls:p.classes.length≤1000∧∀k,k<p.classes.length→(p.classes.getD k ⟨#[]⟩).size≤1000000
 mts:p.methods.length≤1000∧∀k,k<p.methods.length→(p.methods.getD k default).pa.size+(p.methods.getD k default).lo.size≤1000∧(p.methods.getD k default).code.length≤1000
 rows:∀b,b<f.blocks.length→(allN (bkAt f b)).length≤1000000∧(bkAt f b).succ.length≤1000000∧(bkAt f b).preds.length≤1000000
 nds:∀i,i<f.nodes.length→(ndAt f i).kind.size≤1000000∧(ndAt f i).args.length≤1000000
def SCm(S:Nat→Prop)(z gl gc:Nat)(b:Nat):Prop:=S b∨(z≤b∧b<gc∧b≠gl)
def BornM(w:World)(S:Nat→Prop)(gv:Nat)(p:Prg)(vs:List Vs)(f:Fn)(gc:Nat)(w':World):Prop:=
 ∃gl,Chk w' (SCm S w.heap.size gl gc) gc gv p vs f (.slice none 0 0) (.slice none 0 0) (.pointer none) (.map (some gl)) (.slice none 0 0)∧VMap Tryz.prog w' 3 gl 0 (fun _=>none)∧w.heap.size≤gl∧gl<gc∧Below w.heap.size w w'
structure SHyp(p:Prg)(vs:List Vs)(f:Fn):Prop where
 pin:PIn p vs
 ver:Vers p vs
 bnd:∀j,StBnd (stAt f j)
def stOk(p:Prg)(vs:List Vs)(f:Fn):Prop:=∃blk plc,Stands f blk plc∧StatesOk p vs f blk plc
noncomputable def ckG(p:Prg)(vs:List Vs)(f:Fn):Nat:=
 if f.blocks.length<1∨500<f.blocks.length∨4000<f.nodes.length∨4000<f.states.length then 1 else if dec (entryB p vs f=true∧coreOk p f)=true then(if dec (stOk p vs f)=true then 0 else 13)else 12
theorem bornM{w w':World}{S:Nat→Prop}{gv:Nat}{p:Prg}{vs:List Vs}{f:Fn}{An Ab As Ac2 Am2:Option Addr}{cn cb cs cc2 cm2:Nat}{gl:Nat}(hI:InfoG w S gv p vs)(hF:RdF w S An Ab As f)(hcap:f.nodes.length≤cn)(hb:Below w.heap.size w w')
 (hps:RdPS w' (fun b=>w.heap.size≤b∧b<w'.heap.size∧b≠gl) Ac2 Am2 p)(hm:VMap Tryz.prog w' 3 gl 0 (fun _=>none))(hgl:w.heap.size≤gl):
 BornM w S gv p vs f w'.heap.size (w'.alloc (.cells #[.pointer (some ⟨gv,0,none⟩),.slice Ac2 p.classes.length cc2,.slice Am2 p.methods.length cm2,.int .i64 f.mth,.int .i64 f.entry,.slice An f.nodes.length cn,.slice Ab f.blocks.length cb,.slice As f.states.length cs,.slice none 0 0,.slice none 0 0,.pointer none,.map (some gl),.slice none 0 0] 118)):=by
 have hz2:=hb.size;generalize hO:Obj.cells #[.pointer (some ⟨gv,0,none⟩),.slice Ac2 p.classes.length cc2,.slice Am2 p.methods.length cm2,.int .i64 f.mth,.int .i64 f.entry,.slice An f.nodes.length cn,.slice Ab f.blocks.length cb,.slice As f.states.length cs,.slice none 0 0,.slice none 0 0,.pointer none,.map (some gl),.slice none 0 0] 118=O;have hb2:=hb.alloc hz2 O;have hk1:Kept (fun b=>b<w.heap.size) w (w'.alloc O):=Kept.of_below hb2 (fun b h=>h);have hk2:Kept (fun b=>b<w'.heap.size) w' (w'.alloc O):=Kept.of_below ((Below.refl w'.heap.size w').alloc (Nat.le_refl _) O) (fun b h=>h);have hlt:=hI.lt;obtain⟨Ac,cc,Am,cm,Al,cl,cnt,hA⟩:=hI;have hgv:=hA.blk.lt;have hsz:(w'.alloc O).heap.size=w'.heap.size+1:=by simp
 have hlt2:∀b,SCm S w.heap.size gl w'.heap.size b→b<(w'.alloc O).heap.size∧b≠w'.heap.size∧b≠gv:=fun b h=>by
  rw[hsz];rcases h with h|h
  ·have:=hlt b h;exact⟨by omega,by omega,this.2⟩
  ·exact⟨by omega,by omega,by omega⟩
 refine⟨gl,⟨Ac2,cc2,Am2,cm2,An,cn,Ab,cb,As,cs,⟨?_,?_,?_,⟨Ac,cc,Am,cm,Al,cl,cnt,⟨?_,?_,?_,fun b h=>⟨(hlt2 b h).1,(hlt2 b h).2.2⟩⟩⟩,hlt2,⟨by rw[hsz];omega,by omega⟩,hcap⟩⟩,hm.alloc _,hgl,hm.lt,hb2⟩
 ·rw[←hO];exact Blk.new w' _ _
 ·exact(hps.keep (hk2.sub (fun b h=>h.2.1))).more (fun b h=>.inr ⟨h.1,h.2⟩)
 ·exact(hF.keep (hk1.sub (fun b h=>(hlt b h).1))).more (fun b h=>.inl h)
 ·exact hA.blk.below hb2 hgv
 ·exact(hA.prg.keep (hk1.sub (fun b h=>(hlt b h).1))).more (fun b h=>.inl h)
 ·exact(hA.inf.keep (hk1.sub (fun b h=>(hlt b h).1))).more (fun b h=>.inl h)
open Classical in
theorem check_st{w:World}{a:Nat→Addr}{B:Nat}{S:Nat→Prop}{gv:Nat}{p:Prg}{vs:List Vs}{f:Fn}{An Ab As:Option Addr}{cn:Nat}(cb cs:Nat)(hOf:OfAll p f)(h0:CkIn w S gv p vs f An Ab As cn)(hs:Sent w B all14 a)(hBv:B≤gv)(hst:SHyp p vs f)(htz:Tz w)(hgt:(13+1)≤gv):
 Calls Tryz.prog 13 #[.pointer (some ⟨gv,0,none⟩),fv An Ab As cn cb cs f] w (CkPost w a S gv p vs (ckG p vs f)):=by
 have HP:=eh (fun w' n S' (h1:ckG p vs f=n) (h2:InfoG w' S' gv p vs) (h3:∀b,S b→S' b) (h4:∀b,S' b→S b∨w.heap.size≤b) (h5:w.grownBy w' (some gv))=>(show CkPost w a S gv p vs (ckG p vs f) (.returned (errV a n)) w' from⟨by rw[h1],⟨S',h2,h3,h4⟩,h5⟩));have hI:=h0.inf;have hF:=h0.fn;have hcap:=h0.cap;have H0:=eh h0;have lgv:gv<w.heap.size:=by obtain⟨_,_,_,_,_,_,_,h⟩:=hI;exact h.blk.lt
 have bF:=Blk.new w 50 #[.int .i64 f.mth,.int .i64 f.entry,.slice An f.nodes.length cn,.slice Ab f.blocks.length cb,.slice As f.states.length cs];have hb1:=(Below.refl w.heap.size w).alloc (Nat.le_refl _) (.cells #[.int .i64 f.mth,.int .i64 f.entry,.slice An f.nodes.length cn,.slice Ab f.blocks.length cb,.slice As f.states.length cs] 50);have hs1:=hs.below hb1 (by omega);have s1:=(hs1.cell 1 (by simp[all14])).2;have sl1:=(hs1.cell 1 (by simp[all14])).1;simp only[gOf,sent]at s1 sl1;have y3:=bF.at3;have y2:=bF.at2;have y4:World.cell? _ ⟨w.heap.size,4,none⟩=some (.slice As f.states.length cs):=bF.cell 4;have lF:=bF.lt;have HS:=eh hs;generalize hpost:CkPost w a S gv p vs (ckG p vs f)=Post at*;clear hpost;go_enter Tryz.func13,Tryz.ntmps13;go_upto_region 1 with(fail);have HI1:=eh (hI.below hb1)
 by_cases l1:f.blocks.length<1
 ·have gl1:decide ((f.blocks.length:Int)<1)=true:=by simp;omega
  have HN:=eh (show ckG p vs f=1 by unfold ckG;rw[if_pos (by omega)]);clear l1;go_wp2;exact HP.out _ 1 S HN.out HI1.out (fun b h=>h) (fun b h=>.inl h) (uI hb1 (Nat.le_refl _) (some gv))
 ·have gl1:decide ((f.blocks.length:Int)<1)=false:=by simp;omega
  by_cases l2:500<f.blocks.length
  ·have gl2:decide ((500:Int)<f.blocks.length)=true:=by simp;omega
   have HN:=eh (show ckG p vs f=1 by unfold ckG;rw[if_pos (by omega)]);clear l2;go_wp2;exact HP.out _ 1 S HN.out HI1.out (fun b h=>h) (fun b h=>.inl h) (uI hb1 (Nat.le_refl _) (some gv))
  ·have gl2:decide ((500:Int)<f.blocks.length)=false:=by simp;omega
   by_cases l3:4000<f.nodes.length
   ·have gl3:decide ((4000:Int)<f.nodes.length)=true:=by simp;omega
    have HN:=eh (show ckG p vs f=1 by unfold ckG;rw[if_pos (by omega)]);clear l3;go_wp2;exact HP.out _ 1 S HN.out HI1.out (fun b h=>h) (fun b h=>.inl h) (uI hb1 (Nat.le_refl _) (some gv))
   ·have gl3:decide ((4000:Int)<f.nodes.length)=false:=by simp;omega
    by_cases l4:4000<f.states.length
    ·have gl4:decide ((4000:Int)<f.states.length)=true:=by simp;omega
     have HN:=eh (show ckG p vs f=1 by unfold ckG;rw[if_pos (by omega)]);clear l4;go_wp2;exact HP.out _ 1 S HN.out HI1.out (fun b h=>h) (fun b h=>.inl h) (uI hb1 (Nat.le_refl _) (some gv))
    ·have gl4:decide ((4000:Int)<f.states.length)=false:=by simp;omega
     have hlim:¬(f.blocks.length<1∨500<f.blocks.length∨4000<f.nodes.length∨4000<f.states.length):=by omega
     have HL:=eh hlim;have hck:=eh (show ckG p vs f=if dec (entryB p vs f=true∧coreOk p f)=true then(if dec (stOk p vs f)=true then 0 else 13)else 12 by unfold ckG;rw[if_neg hlim]);clear hlim y2 y3 y4 s1 sl1 hs1;go_upto_region 3 with(fail);have f0:=bF.at0;have f1:=bF.at1;have f2:=bF.at2;have f3:=bF.at3;have f4:World.cell? _ ⟨w.heap.size,4,none⟩=some (.slice As f.states.length cs):=bF.cell 4;clear gl1 gl2 gl3 gl4;obtain⟨g3,hg3⟩:∃g3,g3=w.heap.size:=⟨_,rfl⟩;have Hg3:=eh hg3;rw[←hg3]at bF f0 f1 f2 f3 f4 lF⊢;clear hg3;generalize w.alloc (.cells #[.int .i64 f.mth,.int .i64 f.entry,.slice An f.nodes.length cn,.slice Ab f.blocks.length cb,.slice As f.states.length cs] 50)=w1 at*;go_cut [5]from 29 to 35 (fun v wx=>∃gc,v=.pointer (some ⟨gc,0,none⟩)∧BornM w S gv p vs f gc wx)
     case first=>
      clear hs H0 HS hck HP HL hst htz hgt;have hprog:=fun W (h:InfoG W S gv p vs)=>program_any W h h0.cls.1 h0.mts.1 (fun k hk=>(h0.mts.2 k hk).2)
      have Hprog:=eh hprog;have hmm:=@run_makeMap Tryz.prog;clear hprog;refine uE (S:=fun W=>W.cell? ⟨g3,0,none⟩=some (.int .i64 f.mth)∧W.cell? ⟨g3,1,none⟩=some (.int .i64 f.entry)∧W.cell? ⟨g3,2,none⟩=some (.slice An f.nodes.length cn)∧W.cell? ⟨g3,3,none⟩=some (.slice Ab f.blocks.length cb)∧W.cell? ⟨g3,4,none⟩=some (.slice As f.states.length cs)) (fun _=>true) (by kernel_rfl) ⟨f0,f1,f2,f3,f4⟩ (fun HS=>?_);have bFd:Blk w1.drew g3 50 _:=bF;have hbd:Below w.heap.size w w1.drew:=hb1.drew;have HId:Hid (InfoG w1.drew S gv p vs):=eh HI1.out.drew;have lFd:g3<w1.drew.heap.size:=lF;clear f0 f1 f2 f3 f4 bF hb1 HI1 lF;generalize w1.drew=wd at*;refine uB 0 29 rfl HS (.inl ⟨rfl,fun W hW=>by obtain⟨h0,h1,h2,h3,h4⟩:=hW;go_simp;rfl⟩) ?_;simp only[pS];refine uB 1 30 rfl HS (.inl ⟨rfl,fun W hW=>by obtain⟨h0,h1,h2,h3,h4⟩:=hW;go_simp;rfl⟩) ?_;simp only[pS];refine uB 3 32 rfl HS (.inl ⟨rfl,fun W hW=>by obtain⟨h0,h1,h2,h3,h4⟩:=hW;go_simp;rfl⟩) ?_;simp only[pS];refine twoH 2 4 (by kernel_rfl) (by kernel_rfl) (by kernel_rfl) (fun oi h K hK=>?_) (fun oi h K hK=>?_)
      ·simp only[List.getElem?_toArray,List.getElem?_cons_zero,List.getElem?_cons_succ,Option.some.injEq]at h;subst h;have HK:=eh hK;clear hK;go_simp;refine(Hprog.out _ HId.out).mono ?_;rintro e wa ⟨Ac2,cc2,Am2,cm2,rfl,hps,hba⟩;have bFa:=bFd.below hba lFd;have hbA:=hbd.trans (hba.mono hbd.size);have hza:=hba.size;have HSwa:wa.cell? ⟨g3,0,none⟩=some (.int .i64 f.mth)∧wa.cell? ⟨g3,1,none⟩=some (.int .i64 f.entry)∧wa.cell? ⟨g3,2,none⟩=some (.slice An f.nodes.length cn)∧wa.cell? ⟨g3,3,none⟩=some (.slice Ab f.blocks.length cb)∧wa.cell? ⟨g3,4,none⟩=some (.slice As f.states.length cs):=⟨bFa.at0,bFa.at1,bFa.at2,bFa.at3,bFa.cell 4⟩;refine HK.out _ _ (fun _=>HSwa) ?_;clear HK HS;try simp only[pS]
       refine uN 4 rfl (fun K HK=>?_);go_simp;have bFwb:=bFa.alloc (.map #[] 0);have hbB:=hbA.alloc hbA.size (.map #[] 0);obtain⟨gm,hgm⟩:∃gm,gm=wa.heap.size:=⟨_,rfl⟩;rw[←hgm];have hpsB:RdPS (wa.alloc (.map #[] 0)) (fun b=>w.heap.size≤b∧b<gm) Ac2 Am2 p:=(hps.keep (Kept.of_below ((Below.refl wa.heap.size wa).alloc (Nat.le_refl _) (.map #[] 0)) (fun b h=>h.2))).more (fun b h=>⟨Nat.le_trans hbd.size h.1,by rw[hgm];exact h.2⟩);have Hgm:=eh (show w.heap.size≤gm by have:=hbA.size;omega);have lz:gm≤(wa.alloc (.map #[] 0)).heap.size:=by simp;omega
       refine HK.out _ _ (fun _=>⟨bFwb.at0,bFwb.at1,bFwb.at2,bFwb.at3,bFwb.cell 4⟩) ?_;have HM:=eh (show VMap Tryz.prog (wa.alloc (.map #[] 0)) 3 gm 0 (fun _=>none)from hgm▸VMap.made _ _ _);clear HK HSwa hps hbA hgm;generalize wa.alloc (.map #[] 0)=wb at*;have HSwb:wb.cell? ⟨g3,0,none⟩=some (.int .i64 f.mth)∧wb.cell? ⟨g3,1,none⟩=some (.int .i64 f.entry)∧wb.cell? ⟨g3,2,none⟩=some (.slice An f.nodes.length cn)∧wb.cell? ⟨g3,3,none⟩=some (.slice Ab f.blocks.length cb)∧wb.cell? ⟨g3,4,none⟩=some (.slice As f.states.length cs):=⟨bFwb.at0,bFwb.at1,bFwb.at2,bFwb.at3,bFwb.cell 4⟩;try simp only[pS]
       refine uB 5 34 rfl HSwb (.inl ⟨rfl,fun W hW=>by obtain⟨h0,h1,h2,h3,h4⟩:=hW;go_simp;rfl⟩) ?_;simp only[pS];refine uN 6 rfl (fun K HK=>?_);go_simp;have bK:=Blk.new wb 118 #[.pointer (some ⟨gv,0,none⟩),.slice Ac2 p.classes.length cc2,.slice Am2 p.methods.length cm2,.int .i64 f.mth,.int .i64 f.entry,.slice An f.nodes.length cn,.slice Ab f.blocks.length cb,.slice As f.states.length cs,.slice none 0 0,.slice none 0 0,.pointer none,.map (some gm),.slice none 0 0];have bF9:=bFwb.alloc (.cells #[.pointer (some ⟨gv,0,none⟩),.slice Ac2 p.classes.length cc2,.slice Am2 p.methods.length cm2,.int .i64 f.mth,.int .i64 f.entry,.slice An f.nodes.length cn,.slice Ab f.blocks.length cb,.slice As f.states.length cs,.slice none 0 0,.slice none 0 0,.pointer none,.map (some gm),.slice none 0 0] 118);have hb9:=hbB.alloc hbB.size (.cells #[.pointer (some ⟨gv,0,none⟩),.slice Ac2 p.classes.length cc2,.slice Am2 p.methods.length cm2,.int .i64 f.mth,.int .i64 f.entry,.slice An f.nodes.length cn,.slice Ab f.blocks.length cb,.slice As f.states.length cs,.slice none 0 0,.slice none 0 0,.pointer none,.map (some gm),.slice none 0 0] 118);have HB:=eh (bornM hI hF hcap (w':=wb) hbB (hpsB.more (fun b h=>⟨h.1,Nat.lt_of_lt_of_le h.2 lz,by omega⟩)) HM.out Hgm.out (gl:=gm) (cb:=cb) (cs:=cs) (cc2:=cc2) (cm2:=cm2));refine HK.out _ _ (fun _=>⟨bF9.at0,bF9.at1,bF9.at2,bF9.at3,bF9.cell 4⟩) ?_;clear HK;try simp only[pS]
       refine uB 7 5 rfl ⟨bF9.at0,bF9.at1,bF9.at2,bF9.at3,bF9.cell 4⟩ (.inl ⟨rfl,fun W hW=>by obtain⟨h0,h1,h2,h3,h4⟩:=hW;go_simp;rfl⟩) ?_;simp only[pS];refine uD (by kernel_rfl) ?_ _;go_wp2_with fail;go_meet;exact⟨_,rfl,HB.out⟩
      ·simp only[List.getElem?_toArray,List.getElem?_cons_zero,List.getElem?_cons_succ,Option.some.injEq]at h;subst h;have HK:=eh hK;clear hK;go_simp;have bFa:=bFd.alloc (.map #[] 0);have hbA:=hbd.alloc hbd.size (.map #[] 0);have HIa:=eh (HId.out.below ((Below.refl wd.heap.size wd).alloc (Nat.le_refl _) (.map #[] 0)));obtain⟨gm,hgm⟩:∃gm,gm=wd.heap.size:=⟨_,rfl⟩;rw[←hgm];have lFa:=bFa.lt;refine HK.out _ _ (fun _=>⟨bFa.at0,bFa.at1,bFa.at2,bFa.at3,bFa.cell 4⟩) ?_;have HM:=eh (show VMap Tryz.prog (wd.alloc (.map #[] 0)) 3 gm 0 (fun _=>none)from hgm▸VMap.made _ _ _);have Hgm:=eh (show w.heap.size≤gm by have:=hbd.size;omega);have Hgm2:=eh (show gm<(wd.alloc (.map #[] 0)).heap.size by rw[hgm];simp);clear HK HS hgm;generalize wd.alloc (.map #[] 0)=wa at*;have HSwa:wa.cell? ⟨g3,0,none⟩=some (.int .i64 f.mth)∧wa.cell? ⟨g3,1,none⟩=some (.int .i64 f.entry)∧wa.cell? ⟨g3,2,none⟩=some (.slice An f.nodes.length cn)∧wa.cell? ⟨g3,3,none⟩=some (.slice Ab f.blocks.length cb)∧wa.cell? ⟨g3,4,none⟩=some (.slice As f.states.length cs):=⟨bFa.at0,bFa.at1,bFa.at2,bFa.at3,bFa.cell 4⟩;try simp only[pS]
       refine uN 2 rfl (fun K HK=>?_);go_simp;refine(Hprog.out _ HIa.out).mono ?_;rintro e wb ⟨Ac2,cc2,Am2,cm2,rfl,hps,hba⟩;have bFwb:=bFa.below hba lFa;have hbB:=hbA.trans (hba.mono hbA.size);have HMb:=eh (HM.out.below hba Hgm2.out);have hpsB:RdPS wb (fun b=>w.heap.size≤b∧b<wb.heap.size∧b≠gm) Ac2 Am2 p:=hps.more (fun b h=>⟨Nat.le_trans hbA.size h.1,h.2,by have:=h.1;have:=Hgm2.out;omega⟩);have HSwb:wb.cell? ⟨g3,0,none⟩=some (.int .i64 f.mth)∧wb.cell? ⟨g3,1,none⟩=some (.int .i64 f.entry)∧wb.cell? ⟨g3,2,none⟩=some (.slice An f.nodes.length cn)∧wb.cell? ⟨g3,3,none⟩=some (.slice Ab f.blocks.length cb)∧wb.cell? ⟨g3,4,none⟩=some (.slice As f.states.length cs):=⟨bFwb.at0,bFwb.at1,bFwb.at2,bFwb.at3,bFwb.cell 4⟩;refine HK.out _ _ (fun _=>HSwb) ?_;clear HK hps;try simp only[pS]
       refine uB 5 34 rfl HSwb (.inl ⟨rfl,fun W hW=>by obtain⟨h0,h1,h2,h3,h4⟩:=hW;go_simp;rfl⟩) ?_;simp only[pS];refine uN 6 rfl (fun K HK=>?_);go_simp;have bK:=Blk.new wb 118 #[.pointer (some ⟨gv,0,none⟩),.slice Ac2 p.classes.length cc2,.slice Am2 p.methods.length cm2,.int .i64 f.mth,.int .i64 f.entry,.slice An f.nodes.length cn,.slice Ab f.blocks.length cb,.slice As f.states.length cs,.slice none 0 0,.slice none 0 0,.pointer none,.map (some gm),.slice none 0 0];have bF9:=bFwb.alloc (.cells #[.pointer (some ⟨gv,0,none⟩),.slice Ac2 p.classes.length cc2,.slice Am2 p.methods.length cm2,.int .i64 f.mth,.int .i64 f.entry,.slice An f.nodes.length cn,.slice Ab f.blocks.length cb,.slice As f.states.length cs,.slice none 0 0,.slice none 0 0,.pointer none,.map (some gm),.slice none 0 0] 118);have hb9:=hbB.alloc hbB.size (.cells #[.pointer (some ⟨gv,0,none⟩),.slice Ac2 p.classes.length cc2,.slice Am2 p.methods.length cm2,.int .i64 f.mth,.int .i64 f.entry,.slice An f.nodes.length cn,.slice Ab f.blocks.length cb,.slice As f.states.length cs,.slice none 0 0,.slice none 0 0,.pointer none,.map (some gm),.slice none 0 0] 118);have HB:=eh (bornM hI hF hcap (w':=wb) hbB hpsB HMb.out Hgm.out (gl:=gm) (cb:=cb) (cs:=cs) (cc2:=cc2) (cm2:=cm2));refine HK.out _ _ (fun _=>⟨bF9.at0,bF9.at1,bF9.at2,bF9.at3,bF9.cell 4⟩) ?_;clear HK;try simp only[pS]
       refine uB 7 5 rfl ⟨bF9.at0,bF9.at1,bF9.at2,bF9.at3,bF9.cell 4⟩ (.inl ⟨rfl,fun W hW=>by obtain⟨h0,h1,h2,h3,h4⟩:=hW;go_simp;rfl⟩) ?_;simp only[pS];refine uD (by kernel_rfl) ?_ _;go_wp2_with fail;go_meet;exact⟨_,rfl,HB.out⟩
     case rest=>
      obtain⟨gc,rfl,gl,hk0,hm0,hglw,hglc,hbc⟩:=hcut;have hgcw:w.heap.size≤gc:=by omega
      have Hgl:=eh (show w.heap.size≤gl∧gl<gc∧gl≠gv from⟨hglw,hglc,by omega⟩);have HM0:=eh hm0;have HT:=eh htz;have HGt:=eh hgt;have HSH:=eh hst;clear hm0 hglw hglc htz hgt hst;have hg0:w.grownBy wc (some gv):=uI hbc (Nat.le_refl _) (some gv);clear bF hb1 f0 f1 f2 f3 f4 lF HI1;have hen:=entry_any H0.out.vlen H0.out.vsz hk0;have Hen:=eh hen;clear hen;go_wp2_with fail;refine Hen.out.mono ?_;rintro e w2 ⟨rfl,hk1,hg1⟩;have hg01:=hg0.trans hg1;have HG1:=eh hg01;have HM1:=eh (HM0.out.kept hg1 (fun e=>Hgl.out.2.2 (Option.some.inj e)));have HK1:=eh hk1;clear Hen hk0 hbc hg0 hg1 hg01 hk1;cases heb:entryB p vs f with
      |false=>
       have hsE:=HS.out.below (belowB HG1.out hBv lgv) (Nat.le_refl B);have s12:=(hsE.cell 12 (by simp[all14])).2;have sl12:=(hsE.cell 12 (by simp[all14])).1;simp only[gOf,sent]at s12 sl12;have HN:=eh (show ckG p vs f=12 by rw[hck.out,if_neg (by rw[dec_f (fun h=>by rw[heb]at h;cases h.1)];simp)]);have HG:=eh HG1.out;have HIE:=eh (show InfoG w2 _ gv p vs by obtain⟨_,_,_,_,_,_,_,_,_,_,h⟩:=HK1.out;exact h.inf);go_wp2;exact HP.out _ 12 _ HN.out HIE.out (fun b h=>.inl h) (fun b h=>h.elim .inl (fun h=>.inr h.1)) HG.out
      |true=>
       have hmth:inB f.mth p.methods.length=true:=by
        unfold entryB at heb;cases h:inB f.mth p.methods.length with
        |true=>rfl
        |false=>rw[h]at heb;cases heb
       have Hmth:=eh hmth;have Heb:=eh heb;clear hmth heb;have hbl:=blocks_any HK1.out (by have:=HL.out;omega) (by have:=HL.out;omega) (by have:=HL.out;omega) (fun b hb=>(H0.out.rows b hb).1) (fun b hb=>(H0.out.rows b hb).2);have Hbl:=eh hbl;clear hbl;go_wp2_with fail;refine Hbl.out.mono ?_
       rintro e w3 ⟨hg3,⟨rfl,hno⟩|⟨rfl,hbk,gb,gp,gt,gi,gd,blk,plc,idm,dep,hS,R⟩⟩
       ·have HG2:=eh (grown_more HG1.out hg3 (fun x hx=>by cases hx;exact hgcw));have HNo:=eh hno;have HI3:=eh (InfoG.grown HK1.out hg3);clear Hbl hno hg3;have hsE:=HS.out.below (belowB HG2.out hBv lgv) (Nat.le_refl B);have s12:=(hsE.cell 12 (by simp[all14])).2;have sl12:=(hsE.cell 12 (by simp[all14])).1;simp only[gOf,sent]at s12 sl12;have HN:=eh (show ckG p vs f=12 by rw[hck.out,if_neg (by rw[dec_f (fun h=>by obtain⟨b,q,h1,h2,_⟩:=h.2;exact HNo.out ⟨⟨b,q,h1⟩,h2⟩)];simp)]);have HG:=eh HG2.out;have HIE:=eh HI3.out;go_wp2;exact HP.out _ 12 _ HN.out HIE.out (fun b h=>.inl h) (fun b h=>h.elim .inl (fun h=>.inr h.1)) HG.out
       ·have HG2:=eh (grown_more HG1.out hg3 (fun x hx=>by cases hx;exact hgcw));have HM2:=eh (HM1.out.kept hg3 (fun e=>by have:=Hgl.out.2.1;have:=Option.some.inj e;omega));have Hw2:=eh (show gl<w2.heap.size∧gc<w2.heap.size∧gv<w2.heap.size from⟨HM1.out.lt,by obtain⟨_,_,_,_,_,_,_,_,_,_,h⟩:=HK1.out;exact⟨h.blk.lt,h.gv.1⟩⟩);have HR:=eh R;have HS2:=eh hS;have Hbk:=eh hbk;clear Hbl hg3 R hS hbk;have hnin:NodesIn w3 _ gc gv p vs f gb gp blk plc (.pointer (some ⟨gt,0,none⟩)) (.map (some gl)) (.slice none 0 0):=⟨HR.out.chk,HR.out.bb,HS2.out,Hmth.out,H0.out.cls.2,fun k hk=>(H0.out.mts.2 k hk).1,by have:=HL.out;omega,fun k hk=>(H0.out.nds k hk).1,fun b hb=>(H0.out.rows b hb).2.2⟩;have hnd:=nodes_any hnin hOf (fun i hi=>(H0.out.nds i hi).2);have HND:=eh hnd;have HNI:=eh hnin;clear hnd hnin;go_wp2_with fail;refine HND.out.mono ?_
        rintro e w4 ⟨hb34,⟨rfl,hnok⟩|⟨rfl,hno⟩⟩
        ·have Hz34:=eh (show w3.heap.size≤w4.heap.size from hb34.size);have hsi:StandsIn w4 _ gc gv p vs f gb gp gt gi gd blk plc idm dep (.map (some gl)) (.slice none 0 0):=(StandsIn.below ⟨HNI.out,HR.out.bp,HR.out.tree,HR.out.ok,Hbk.out,hnok,by have:=HL.out;omega,fun i hi=>(H0.out.nds i hi).2,⟨cell_gt HR.out.tree.t1,HR.out.tree.bi.lt,HR.out.tree.bd.lt⟩⟩ hb34);have HSI:=eh hsi;have hsd:=stands_any hsi;have HSD:=eh hsd;have HG4:=eh (HG2.out.trans (grown_more (row2:=none) ⟨rfl,rfl,rfl,Nat.le_refl _,fun _ _ _=>rfl⟩ (uI hb34 (Nat.le_refl _) none) (fun x hx=>by cases hx) (row:=some gv)));have Hnok:=eh hnok;have HM4:=eh (HM2.out.below hb34 HM2.out.lt);clear hsi hsd hb34 hnok HND;go_wp2_with fail;refine HSD.out.mono ?_
         rintro e w5 ⟨hb45,⟨rfl,hsok⟩|⟨rfl,hno⟩⟩
         ·have HG5:=eh (HG4.out.trans (uI hb45 (Nat.le_refl _) (some gv)));have HK5:=eh (HSI.out.nin.chk.below hb45);have HCo:=eh (show dec (entryB p vs f=true∧coreOk p f)=true from dec_t ⟨Heb.out,blk,plc,HS2.out,Hbk.out,Hnok.out,hsok⟩);have HSI5:=HSI.out.below hb45;have HM5:=eh (HM4.out.below hb45 HM4.out.lt);have hlo:=HR.out.new;have hw:=Hw2.out;have hgl:=Hgl.out;have hz35:w3.heap.size≤w5.heap.size:=Nat.le_trans (by have:=HR.out.bb.lt;exact Hz34.out) hb45.size;have htl:=HT.out.1;have hsn:=states_any (show StsIn w5 _ gc gv gl p vs f gb gp gt gi gd blk plc idm dep (.slice none 0 0)from⟨HSI5,HM5.out,HT.out.grown HG5.out (by show 13≠gv;have:=HGt.out;omega),⟨HGt.out,by omega,by omega⟩,⟨hgl.2.2,by omega,fun b q e=>by
           subst e;rcases q with q|q
           ·have:=(H0.out.inf.lt _ q).1;omega
           ·exact q.2.2 rfl⟩,(fun b hb=>by
           have h5:b<w5.heap.size:=by
            rcases hb with e|e|e|e|e
            ·rw[e];exact HSI5.nin.bb.lt
            ·rw[e];exact HSI5.bp.lt
            ·rw[e];exact HSI5.lt.1
            ·rw[e];exact HSI5.lt.2.1
            ·rw[e];exact HSI5.lt.2.2
           refine⟨h5,?_,?_,?_⟩<;>rcases hb with e|e|e|e|e<;>omega),HSH.out.pin,HSH.out.ver,HSH.out.bnd,by have:=HL.out;omega,fun k hk=>(H0.out.mts.2 k hk).2⟩)
          have HSN:=eh hsn;have HSt:=eh (show dec (stOk p vs f)=decide (StatesOk p vs f blk plc) by
           unfold dec;apply decide_eq_decide.2;exact⟨fun⟨b',p',q1,q2⟩=>by obtain⟨e1,e2⟩:=HS2.out.uniq q1;rw[e1,e2];exact q2,fun q=>⟨blk,plc,HS2.out,q⟩⟩)
          obtain⟨r,hr⟩:∃r,r=decide (StatesOk p vs f blk plc):=⟨_,rfl⟩;rw[←hr]at HSN HSt;clear hsn hb45 hsok HSD HSI5 hlo hw hgl hz35 htl hr HM5;go_wp2_with fail;refine HSN.out.mono ?_;rintro e w6 ⟨rfl,hI6,hk6⟩;have HI6:=eh hI6;have HG6:=eh (show w.grownBy w6 (some gv)from⟨hk6.os.trans HG5.out.os,hk6.tape.trans HG5.out.tape,hk6.output.trans HG5.out.output,Nat.le_trans HG5.out.size hk6.size,fun b hb hne=>(hk6.block b (Nat.lt_of_lt_of_le hb HG5.out.size) (fun q=>by
           have:=Hgl.out;rcases q with q|q|q
           ·omega
           ·exact hne (by rw[q])
           ·omega)).trans (HG5.out.block b hb hne)⟩)
          clear hk6 hI6 HSN;cases r with
          |true=>
           have HN:=eh (show ckG p vs f=0 by rw[hck.out,if_pos HCo.out,if_pos HSt.out]);go_wp2;exact HP.out _ 0 _ HN.out HI6.out (fun b h=>.inl h) (fun b h=>h.elim .inl (fun h=>.inr h.1)) HG6.out
          |false=>
           have HN:=eh (show ckG p vs f=13 by rw[hck.out,if_pos HCo.out,if_neg (by rw[HSt.out];simp)]);have hsE:=HS.out.below (belowB HG6.out hBv lgv) (Nat.le_refl B);have s13:=(hsE.cell 13 (by simp[all14])).2;have sl13:=(hsE.cell 13 (by simp[all14])).1;simp only[gOf,sent]at s13 sl13;go_wp2;exact HP.out _ 13 _ HN.out HI6.out (fun b h=>.inl h) (fun b h=>h.elim .inl (fun h=>.inr h.1)) HG6.out
         ·have HG5:=eh (HG4.out.trans (uI hb45 (Nat.le_refl _) (some gv)));have HNo:=eh hno;have HI5:=eh (show InfoG w5 _ gv p vs by obtain⟨_,_,_,_,_,_,_,_,_,_,h⟩:=HSI.out.nin.chk.below hb45;exact h.inf);clear hb45 hno HSD;have hsE:=HS.out.below (belowB HG5.out hBv lgv) (Nat.le_refl B);have s12:=(hsE.cell 12 (by simp[all14])).2;have sl12:=(hsE.cell 12 (by simp[all14])).1;simp only[gOf,sent]at s12 sl12;have HN:=eh (show ckG p vs f=12 by rw[hck.out,if_neg (by rw[dec_f (fun h=>HNo.out ((core_iff HS2.out).1 h.2).2.2)];simp)]);have HG:=eh HG5.out;have HIE:=eh HI5.out;go_wp2;exact HP.out _ 12 _ HN.out HIE.out (fun b h=>.inl h) (fun b h=>h.elim .inl (fun h=>.inr h.1)) HG.out
        ·have HG4:=eh (HG2.out.trans (uI hb34 (Nat.le_refl _) (some gv)));have HNo:=eh hno;have HI4:=eh (show InfoG w4 _ gv p vs by obtain⟨_,_,_,_,_,_,_,_,_,_,h⟩:=HNI.out.chk.below hb34;exact h.inf);clear hb34 hno HND;have hsE:=HS.out.below (belowB HG4.out hBv lgv) (Nat.le_refl B);have s12:=(hsE.cell 12 (by simp[all14])).2;have sl12:=(hsE.cell 12 (by simp[all14])).1;simp only[gOf,sent]at s12 sl12;have HN:=eh (show ckG p vs f=12 by rw[hck.out,if_neg (by rw[dec_f (fun h=>HNo.out ((core_iff HS2.out).1 h.2).2.1)];simp)]);have HG:=eh HG4.out;have HIE:=eh HI4.out;go_wp2;exact HP.out _ 12 _ HN.out HIE.out (fun b h=>.inl h) (fun b h=>h.elim .inl (fun h=>.inr h.1)) HG.out
end Go.Proofs.YtgbgbmdiomhfiaaGreatDoor