/-
 Ss8, Ss9, SsNd, SsO6, SsP, Rv1.
-/
import Derived.StillTailTactics
import Derived.IntWalk
import Derived.Test.YtgbgbmdiomhfiaaGreatDoorJVr1
import Derived.Test.YtgbgbmdiomhfiaaGreatDoorJPgEff3
import Derived.Test.YtgbgbmdiomhfiaaGreatDoorJSs7b
set_option linter.unusedSimpArgs false
set_option linter.unusedVariables false
set_option maxHeartbeats 32000000
set_option maxRecDepth 100000
namespace Go.Proofs.YtgbgbmdiomhfiaaGreatDoor
open Go.RowKit Go.Maps
abbrev ndv(x:Nd)(A:Option Addr)(c:Nat):Value:=.agg #[.int .i64 x.op,.int .i64 x.a,.int .i64 x.b,.int .i64 x.st,.string x.kind,.int .i64 x.n,.slice A x.args.length c]
theorem rds_str{w:World}{S:Nat→Prop}{A:Option Addr}{n:Nat}{l:List ByteArray}(h:RdS w S 1 A n (l.map Value.string)){k:Nat}(hk:k<l.length):∃b off,A=some ⟨b,off,none⟩∧S b∧w.cell? ⟨b,off+k,none⟩=some (.string (l.getD k ⟨#[]⟩)):=by
 have hn:l.length=n:=by simpa using h.1
 obtain⟨b,off,e,hb,hc⟩:=h.2 (by omega);exact⟨b,off,e,hb,hc k _ (by simp[hk])⟩
abbrev formV(fm:Form):Value:=.agg #[.string fm.kind,.string fm.args,.bool fm.a,.bool fm.b,.bool fm.n,.bool fm.st]
def OfPost(w:World)(r:Option Form)(e:Ending)(w':World):Prop:=Below w.heap.size w w'∧∃fm,e=.returned (.tuple #[formV fm,.bool r.isSome])∧(r.isSome=true→r=some fm)
structure NodesIn(w:World)(S:Nat→Prop)(gc gv:Nat)(p:Prg)(vs:List Vs)(f:Fn)(gb gp:Nat)(blk plc:List Int)(tv lv dv:Value):Prop where
 chk:Chk w S gc gv p vs f (.slice (some ⟨gb,0,none⟩) f.nodes.length f.nodes.length) (.slice (some ⟨gp,0,none⟩) f.nodes.length f.nodes.length) tv lv dv
 bb:Blk w gb 3 ⟨ints blk⟩
 st:Stands f blk plc
 mth:inB f.mth p.methods.length=true
 cls:∀k,k<p.classes.length→(p.classes.getD k ⟨#[]⟩).size≤1000000
 mts:∀k,k<p.methods.length→(p.methods.getD k default).pa.size+(p.methods.getD k default).lo.size≤1000
 nd:f.nodes.length≤4000
 kinds:∀k,k<f.nodes.length→(ndAt f k).kind.size≤1000000
 prs:∀b,b<f.blocks.length→(bkAt f b).preds.length≤1000000
theorem NodesIn.below{w w':World}{S:Nat→Prop}{gc gv:Nat}{p:Prg}{vs:List Vs}{f:Fn}{gb gp:Nat}{blk plc:List Int}{tv lv dv:Value}(h:NodesIn w S gc gv p vs f gb gp blk plc tv lv dv)(hb:Below w.heap.size w w'):NodesIn w' S gc gv p vs f gb gp blk plc tv lv dv:=
 ⟨h.chk.below hb,h.bb.below hb h.bb.lt,h.st,h.mth,h.cls,h.mts,h.nd,h.kinds,h.prs⟩
theorem ChkAt.below{w w':World}{S:Nat→Prop}{gc gv:Nat}{p:Prg}{vs:List Vs}{f:Fn}{Ac Am An Ab As:Option Addr}{cc cm cn cb cs:Nat}{bv qv tv lv dv:Value}(h:ChkAt w S gc gv p vs f Ac cc Am cm An cn Ab cb As cs bv qv tv lv dv)(hb:Below w.heap.size w w'):ChkAt w' S gc gv p vs f Ac cc Am cm An cn Ab cb As cs bv qv tv lv dv:=
 h.kb (KB.of_below hb (fun b hb=>hb.elim (fun h2=>(h.lt b h2).1) (fun h2=>h2.elim (fun e=>e▸h.gv.1) (fun e=>e▸h.blk.lt)))) hb.size
def set6(w:World)(g:Nat)(a b c d e f:Value):World:=(((((w.setCell ⟨g,0,none⟩ a).setCell ⟨g,1,none⟩ b).setCell ⟨g,2,none⟩ c).setCell ⟨g,3,none⟩ d).setCell ⟨g,4,none⟩ e).setCell ⟨g,5,none⟩ f
theorem below_set6{B g:Nat}{w w':World}{a b c d e f:Value}(h:Below B w w')(hg:B≤g):Below B w (set6 w' g a b c d e f):=(((((h.setCell (p:=⟨g,0,none⟩) hg _).setCell (p:=⟨g,1,none⟩) hg _).setCell (p:=⟨g,2,none⟩) hg _).setCell (p:=⟨g,3,none⟩) hg _).setCell (p:=⟨g,4,none⟩) hg _).setCell (p:=⟨g,5,none⟩) hg _
theorem kb_set6{w:World}{g:Nat}{a b c d e f:Value}:KB (fun b=>b≠g) w (set6 w g a b c d e f):=
 ((((((KB.refl _ w).set (p:=⟨g,0,none⟩) (fun h=>h rfl) a).set (p:=⟨g,1,none⟩) (fun h=>h rfl) b).set (p:=⟨g,2,none⟩) (fun h=>h rfl) c).set (p:=⟨g,3,none⟩) (fun h=>h rfl) d).set (p:=⟨g,4,none⟩) (fun h=>h rfl) e).set (p:=⟨g,5,none⟩) (fun h=>h rfl) f
theorem Blk.set6{w:World}{g:Nat}{T:TypeId}{x0 x1 x2 x3 x4 x5 a b c d e f:Value}(h:Blk w g T #[x0,x1,x2,x3,x4,x5]):Blk (set6 w g a b c d e f) g T #[a,b,c,d,e,f]:=by
 have:=(((((h.set_ 0 a).set_ 1 b).set_ 2 c).set_ 3 d).set_ 4 e).set_ 5 f;simpa[Proofs.YtgbgbmdiomhfiaaGreatDoor.set6]using this
def OfAll(p:Prg)(f:Fn):Prop:=∀{w:World} {S:Nat→Prop} {gc gv:Nat} {vs:List Vs} {gb gp:Nat} {blk plc:List Int} {tv lv dv:Value},NodesIn w S gc gv p vs f gb gp blk plc tv lv dv→∀{i:Nat},i<f.nodes.length→
 Calls Tryz.prog 50 #[.pointer (some ⟨gc,0,none⟩),.int .i64 i] w (OfPost w (formF p f blk i))
def DecPost(w:World)(P:Prop)(e:Ending)(w':World):Prop:=Below w.heap.size w w'∧((e=.returned (.bool true)∧P)∨(e=.returned (.bool false)∧¬P))
def bad1P(x:Nd)(fm:Form):Prop:=x.kind≠fm.kind∨x.args.length≠fm.args.size∨(fm.a=false∧x.a≠0)∨(fm.b=false∧x.b≠0)∨(fm.n=false∧x.n≠0)
def bad2P(f:Fn)(x:Nd)(fm:Form):Prop:=¬(if fm.st=true then inB x.st f.states.length=true else x.st= -1)
theorem str_eqb3(s t:ByteArray):(s.toList==t.toList)=decide (s=t):=by
 rw[Bool.eq_iff_iff];simp only[beq_iff_eq,decide_eq_true_eq];exact⟨fun h=>ByteArray.ext (Array.ext' (by rw[ByteArray.toList_eq,ByteArray.toList_eq]at h;exact h)),fun h=>by rw[h]⟩
theorem str_neq{s t:ByteArray}(h:s≠t):(s.toList==t.toList)=false:=(str_eqb3 s t).trans (decide_eq_false h)
theorem str_eqq{s t:ByteArray}(h:s=t):(s.toList==t.toList)=true:=(str_eqb3 s t).trans (decide_eq_true h)
open Classical in
theorem nodes_any{w:World}{S:Nat→Prop}{gc gv:Nat}{p:Prg}{vs:List Vs}{f:Fn}{gb gp:Nat}{blk plc:List Int}{tv lv dv:Value}(hN:NodesIn w S gc gv p vs f gb gp blk plc tv lv dv)(hOf:OfAll p f)(har:∀i,i<f.nodes.length→(ndAt f i).args.length≤1000000):
 Calls Tryz.prog 23 #[.pointer (some ⟨gc,0,none⟩)] w (DecPost w (nodesOk p f blk)):=by
 have HPt:=eh (fun w' (h1:Below w.heap.size w w') (h2:nodesOk p f blk)=>(show DecPost w (nodesOk p f blk) (.returned (.bool true)) w' from⟨h1,.inl ⟨rfl,h2⟩⟩));have HPf:=eh (fun w' (h1:Below w.heap.size w w') (h2:¬nodesOk p f blk)=>(show DecPost w (nodesOk p f blk) (.returned (.bool false)) w' from⟨h1,.inr ⟨rfl,h2⟩⟩));have HN:=eh hN;have Har:=eh har;obtain⟨Ac,cc,Am,cm,An,cn,Ab,cb,As,cs,hC⟩:=hN.chk;have c5:w.cell? ⟨gc,5,none⟩=some (.slice An f.nodes.length cn):=hC.blk.cell 5;have lC:=hC.blk.lt;have hnd:=hN.nd;have HC:=eh hC;generalize DecPost w (nodesOk p f blk)=Post at*;clear hN hC har;go_enter Tryz.func23,Tryz.ntmps23;go_wp2;go_loopw [15] (fun iv wr=>∃i:Nat,i≤f.nodes.length∧iv=.int .i64 i∧Hid (∀j,j<i→nodeOk p f blk j)∧Hid (Below w.heap.size w wr)) (fun iv _=>f.nodes.length-(intOf iv).toNat)
 case atStart=>exact⟨0,Nat.zero_le _,rfl,eh (fun j h=>by omega),eh (Below.refl _ _)⟩
 case round=>
  clear c5 lC;obtain⟨i,hi,rfl,HO,HB0⟩:=hrel
  by_cases hlt:i<f.nodes.length
  ·have i0:(0:Int)≤i:=by omega
   have i1:(i:Int)<f.nodes.length:=by omega
   have hC1:=HC.out.below HB0.out;obtain⟨bn,on_,A1,c1n,hAn,hSn,v0,v1,v2,v3,v4,v5,v6,rr⟩:=rd_nd hC1.fn.nodes hlt;subst hAn;have lbn:=(hC1.lt bn hSn).1;have hal:(f.nodes.getD i default).args.length≤1000000:=Har.out i hlt;obtain⟨x,hxx⟩:∃x,f.nodes.getD i default=x:=⟨_,rfl⟩;rw[hxx]at v0 v1 v2 v3 v4 v5 v6 rr hal;have Hx:=eh (show ndAt f i=x from hxx);obtain⟨op,xa,xb,st,kd,xn,args⟩:=x;simp only at v0 v1 v2 v3 v4 v5 v6 rr hal;have hbW:=HB0.out.alloc HB0.out.size (.cells #[.int .i64 op,.int .i64 xa,.int .i64 xb,.int .i64 st,.string kd,.int .i64 xn,.slice A1 args.length c1n] 40);have XW:=Blk.new wr 40 #[.int .i64 op,.int .i64 xa,.int .i64 xb,.int .i64 st,.string kd,.int .i64 xn,.slice A1 args.length c1n];have HRR:=eh (rr.rd (B:=w.heap.size) (fun b hb=>(HC.out.lt b hb).1));have lwr:=HB0.out.size;clear hxx rr hC1;go_upto_region 4 with(fail);obtain⟨g4,hg4⟩:∃g4,g4=wr.heap.size:=⟨_,rfl⟩;rw[←hg4]at XW lwr⊢;have Hg4:=eh hg4;clear hg4 v0 v1 v2 v3 v4 v5 v6 lbn;generalize wr.alloc (.cells #[.int .i64 op,.int .i64 xa,.int .i64 xb,.int .i64 st,.string kd,.int .i64 xn,.slice A1 args.length c1n] 40)=w2 at*;have hof:=hOf (HN.out.below hbW) hlt;have Hof:=eh hof;clear hof;have lXW:=XW.lt;go_wp2_with fail;refine Hof.out.mono ?_;rintro e w3 ⟨hb23,fm,rfl,hfm⟩;have X3:=XW.below hb23 lXW;have hb3:=hbW.trans (hb23.mono hbW.size);have HRR3:=eh (HRR.out.keep (fun q hq=>(hb3.cell hq).trans (HB0.out.cell hq).symm));clear XW hbW hb23 lXW;obtain⟨fk,fg,fa,fb,fn,fs⟩:=fm;have T4:=Blk.new w3 152 #[.string fk,.string fg,.bool fa,.bool fb,.bool fn,.bool fs];have X4:=X3.alloc (.cells #[.string fk,.string fg,.bool fa,.bool fb,.bool fn,.bool fs] 152);have hb4:=hb3.alloc hb3.size (.cells #[.string fk,.string fg,.bool fa,.bool fb,.bool fn,.bool fs] 152);have hg45:g4<w3.heap.size:=X3.lt;go_upto_region 5 with(fail);obtain⟨g5,hg5⟩:∃g5,g5=w3.heap.size:=⟨_,rfl⟩;rw[←hg5]at T4 hg45⊢;clear hg5 X3 hb3;generalize w3.alloc (.cells #[.string fk,.string fg,.bool fa,.bool fb,.bool fn,.bool fs] 152)=w4 at*;have t0:=T4.at0;have t1:=T4.at1;have t2:=T4.at2;have t3:=T4.at3;have t4:w4.cell? ⟨g5,4,none⟩=some (.bool fn):=T4.cell 4;have t5:w4.cell? ⟨g5,5,none⟩=some (.bool fs):=T4.cell 5;have x1:=X4.at1;have x2:=X4.at2;have x3:=X4.at3;have x4:w4.cell? ⟨g4,4,none⟩=some (.string kd):=X4.cell 4;have x5:w4.cell? ⟨g4,5,none⟩=some (.int .i64 xn):=X4.cell 5;have x6:w4.cell? ⟨g4,6,none⟩=some (.slice A1 args.length c1n):=X4.cell 6;have lT:=T4.lt;have lX:=X4.lt;clear T4 X4;have Hb4:=eh hb4;have HRR4:=eh (HRR.out.keep (w':=w4) (fun q hq=>(hb4.cell hq).trans (HB0.out.cell hq).symm));clear hb4 HRR HRR3;cases hr:formF p f blk i with
   |none=>
    have HNo:=eh (show¬nodesOk p f blk from fun h=>by
     obtain⟨fm',h1,_⟩:=h i hlt;rw[hr]at h1;cases h1)
    rw[hr]at hfm;clear hr hfm;simp only[Option.isSome_none];go_wp2;exact HPf.out _ Hb4.out HNo.out
   |some fm0=>
    rw[hr]at hfm;have e0:=hfm rfl;cases e0;have Hr:=eh (show formF p f blk i=some ⟨fk,fg,fa,fb,fn,fs⟩from hr);clear hr hfm;simp only[Option.isSome_some];have Hok:=eh (show FormOk f ⟨op,xa,xb,st,kd,xn,args⟩ ⟨fk,fg,fa,fb,fn,fs⟩→nodeOk p f blk i from fun h=>⟨_,Hr.out,by rw[Hx.out];exact h⟩);have Hno:=eh (show¬FormOk f ⟨op,xa,xb,st,kd,xn,args⟩ ⟨fk,fg,fa,fb,fn,fs⟩→¬nodesOk p f blk from fun h h2=>by
     obtain⟨fm',h3,h4⟩:=h2 i hlt;rw[Hr.out]at h3;cases h3;rw[Hx.out]at h4;exact h h4)
    obtain⟨bad1,hbad⟩:∃bad1:Bool,bad1=decide (bad1P ⟨op,xa,xb,st,kd,xn,args⟩ ⟨fk,fg,fa,fb,fn,fs⟩):=⟨_,rfl⟩;have Hbad:=eh hbad;clear hbad;go_cut [73]from 26 to 73 (fun v wx=>v=.bool bad1∧wx=w4)
    case first=>
     clear Hok Hno Hr
     by_cases hkd:kd=fk
     ·have gk:=str_eqq hkd
      by_cases hln:args.length=fg.size
      ·have gl:((args.length:Int) != (fg.size:Int))=false:=by simp;omega
       have Hkd:=eh hkd;have Hln:=eh hln;clear hkd hln
       by_cases ha:fa=true
       ·have ha':=ha;subst ha
        by_cases hb:fb=true
        ·have hb':=hb;subst hb
         by_cases hn:fn=true
         ·have hn':=hn;subst hn;have HB:=eh (show bad1=false by
           rw[Hbad.out];exact decide_eq_false (by
            intro h;unfold bad1P at h;simp only at h;rcases h with h|h|h|h|h
            ·exact h Hkd.out
            ·exact h Hln.out
            ·first|exact absurd (ha'.symm.trans h.1) (by simp)|exact h.2 ha'
            ·first|exact absurd (hb'.symm.trans h.1) (by simp)|exact h.2 hb'
            ·first|exact absurd (hn'.symm.trans h.1) (by simp)|exact h.2 hn'))
          clear Hbad;try clear ha'
          try clear hb'
          try clear hn'
          go_wp2;go_meet;exact⟨by rw[HB.out],rfl⟩
         ·have hnf:fn=false:=by simpa using hn
          subst hnf
          by_cases hn':xn=0
          ·have gn:(xn != 0)=false:=by simpa using hn'
           have HB:=eh (show bad1=false by
            rw[Hbad.out];exact decide_eq_false (by
             intro h;unfold bad1P at h;simp only at h;rcases h with h|h|h|h|h
             ·exact h Hkd.out
             ·exact h Hln.out
             ·first|exact absurd (ha'.symm.trans h.1) (by simp)|exact h.2 ha'
             ·first|exact absurd (hb'.symm.trans h.1) (by simp)|exact h.2 hb'
             ·first|exact absurd (hn'.symm.trans h.1) (by simp)|exact h.2 hn'))
           clear Hbad;try clear ha'
           try clear hb'
           try clear hn'
           go_wp2;go_meet;exact⟨by rw[HB.out],rfl⟩
          ·have gn:(xn != 0)=true:=by simpa using hn'
           have HB:=eh (show bad1=true by rw[Hbad.out];exact decide_eq_true (.inr (.inr (.inr (.inr ⟨rfl,hn'⟩)))));clear Hbad;try clear ha'
           try clear hb'
           try clear hn'
           go_wp2;go_meet;exact⟨by rw[HB.out],rfl⟩
        ·have hbf:fb=false:=by simpa using hb
         subst hbf
         by_cases hb':xb=0
         ·have gb:(xb != 0)=false:=by simpa using hb'
          by_cases hn:fn=true
          ·have hn':=hn;subst hn;have HB:=eh (show bad1=false by
            rw[Hbad.out];exact decide_eq_false (by
             intro h;unfold bad1P at h;simp only at h;rcases h with h|h|h|h|h
             ·exact h Hkd.out
             ·exact h Hln.out
             ·first|exact absurd (ha'.symm.trans h.1) (by simp)|exact h.2 ha'
             ·first|exact absurd (hb'.symm.trans h.1) (by simp)|exact h.2 hb'
             ·first|exact absurd (hn'.symm.trans h.1) (by simp)|exact h.2 hn'))
           clear Hbad;try clear ha'
           try clear hb'
           try clear hn'
           go_wp2;go_meet;exact⟨by rw[HB.out],rfl⟩
          ·have hnf:fn=false:=by simpa using hn
           subst hnf
           by_cases hn':xn=0
           ·have gn:(xn != 0)=false:=by simpa using hn'
            have HB:=eh (show bad1=false by
             rw[Hbad.out];exact decide_eq_false (by
              intro h;unfold bad1P at h;simp only at h;rcases h with h|h|h|h|h
              ·exact h Hkd.out
              ·exact h Hln.out
              ·first|exact absurd (ha'.symm.trans h.1) (by simp)|exact h.2 ha'
              ·first|exact absurd (hb'.symm.trans h.1) (by simp)|exact h.2 hb'
              ·first|exact absurd (hn'.symm.trans h.1) (by simp)|exact h.2 hn'))
            clear Hbad;try clear ha'
            try clear hb'
            try clear hn'
            go_wp2;go_meet;exact⟨by rw[HB.out],rfl⟩
           ·have gn:(xn != 0)=true:=by simpa using hn'
            have HB:=eh (show bad1=true by rw[Hbad.out];exact decide_eq_true (.inr (.inr (.inr (.inr ⟨rfl,hn'⟩)))));clear Hbad;try clear ha'
            try clear hb'
            try clear hn'
            go_wp2;go_meet;exact⟨by rw[HB.out],rfl⟩
         ·have gb:(xb != 0)=true:=by simpa using hb'
          have HB:=eh (show bad1=true by rw[Hbad.out];exact decide_eq_true (.inr (.inr (.inr (.inl ⟨rfl,hb'⟩)))));clear Hbad;try clear ha'
          try clear hb'
          try clear hn'
          go_wp2;go_meet;exact⟨by rw[HB.out],rfl⟩
       ·have haf:fa=false:=by simpa using ha
        subst haf
        by_cases ha':xa=0
        ·have ga:(xa != 0)=false:=by simpa using ha'
         by_cases hb:fb=true
         ·have hb':=hb;subst hb
          by_cases hn:fn=true
          ·have hn':=hn;subst hn;have HB:=eh (show bad1=false by
            rw[Hbad.out];exact decide_eq_false (by
             intro h;unfold bad1P at h;simp only at h;rcases h with h|h|h|h|h
             ·exact h Hkd.out
             ·exact h Hln.out
             ·first|exact absurd (ha'.symm.trans h.1) (by simp)|exact h.2 ha'
             ·first|exact absurd (hb'.symm.trans h.1) (by simp)|exact h.2 hb'
             ·first|exact absurd (hn'.symm.trans h.1) (by simp)|exact h.2 hn'))
           clear Hbad;try clear ha'
           try clear hb'
           try clear hn'
           go_wp2;go_meet;exact⟨by rw[HB.out],rfl⟩
          ·have hnf:fn=false:=by simpa using hn
           subst hnf
           by_cases hn':xn=0
           ·have gn:(xn != 0)=false:=by simpa using hn'
            have HB:=eh (show bad1=false by
             rw[Hbad.out];exact decide_eq_false (by
              intro h;unfold bad1P at h;simp only at h;rcases h with h|h|h|h|h
              ·exact h Hkd.out
              ·exact h Hln.out
              ·first|exact absurd (ha'.symm.trans h.1) (by simp)|exact h.2 ha'
              ·first|exact absurd (hb'.symm.trans h.1) (by simp)|exact h.2 hb'
              ·first|exact absurd (hn'.symm.trans h.1) (by simp)|exact h.2 hn'))
            clear Hbad;try clear ha'
            try clear hb'
            try clear hn'
            go_wp2;go_meet;exact⟨by rw[HB.out],rfl⟩
           ·have gn:(xn != 0)=true:=by simpa using hn'
            have HB:=eh (show bad1=true by rw[Hbad.out];exact decide_eq_true (.inr (.inr (.inr (.inr ⟨rfl,hn'⟩)))));clear Hbad;try clear ha'
            try clear hb'
            try clear hn'
            go_wp2;go_meet;exact⟨by rw[HB.out],rfl⟩
         ·have hbf:fb=false:=by simpa using hb
          subst hbf
          by_cases hb':xb=0
          ·have gb:(xb != 0)=false:=by simpa using hb'
           by_cases hn:fn=true
           ·have hn':=hn;subst hn;have HB:=eh (show bad1=false by
             rw[Hbad.out];exact decide_eq_false (by
              intro h;unfold bad1P at h;simp only at h;rcases h with h|h|h|h|h
              ·exact h Hkd.out
              ·exact h Hln.out
              ·first|exact absurd (ha'.symm.trans h.1) (by simp)|exact h.2 ha'
              ·first|exact absurd (hb'.symm.trans h.1) (by simp)|exact h.2 hb'
              ·first|exact absurd (hn'.symm.trans h.1) (by simp)|exact h.2 hn'))
            clear Hbad;try clear ha'
            try clear hb'
            try clear hn'
            go_wp2;go_meet;exact⟨by rw[HB.out],rfl⟩
           ·have hnf:fn=false:=by simpa using hn
            subst hnf
            by_cases hn':xn=0
            ·have gn:(xn != 0)=false:=by simpa using hn'
             have HB:=eh (show bad1=false by
              rw[Hbad.out];exact decide_eq_false (by
               intro h;unfold bad1P at h;simp only at h;rcases h with h|h|h|h|h
               ·exact h Hkd.out
               ·exact h Hln.out
               ·first|exact absurd (ha'.symm.trans h.1) (by simp)|exact h.2 ha'
               ·first|exact absurd (hb'.symm.trans h.1) (by simp)|exact h.2 hb'
               ·first|exact absurd (hn'.symm.trans h.1) (by simp)|exact h.2 hn'))
             clear Hbad;try clear ha'
             try clear hb'
             try clear hn'
             go_wp2;go_meet;exact⟨by rw[HB.out],rfl⟩
            ·have gn:(xn != 0)=true:=by simpa using hn'
             have HB:=eh (show bad1=true by rw[Hbad.out];exact decide_eq_true (.inr (.inr (.inr (.inr ⟨rfl,hn'⟩)))));clear Hbad;try clear ha'
             try clear hb'
             try clear hn'
             go_wp2;go_meet;exact⟨by rw[HB.out],rfl⟩
          ·have gb:(xb != 0)=true:=by simpa using hb'
           have HB:=eh (show bad1=true by rw[Hbad.out];exact decide_eq_true (.inr (.inr (.inr (.inl ⟨rfl,hb'⟩)))));clear Hbad;try clear ha'
           try clear hb'
           try clear hn'
           go_wp2;go_meet;exact⟨by rw[HB.out],rfl⟩
        ·have ga:(xa != 0)=true:=by simpa using ha'
         have HB:=eh (show bad1=true by rw[Hbad.out];exact decide_eq_true (.inr (.inr (.inl ⟨rfl,ha'⟩))));clear Hbad;try clear ha'
         try clear hb'
         try clear hn'
         go_wp2;go_meet;exact⟨by rw[HB.out],rfl⟩
      ·have gl:((args.length:Int) != (fg.size:Int))=true:=by simp;omega
       have HB:=eh (show bad1=true by rw[Hbad.out];exact decide_eq_true (.inr (.inl hln)));clear hln hkd Hbad;go_wp2;go_meet;exact⟨by rw[HB.out],rfl⟩
     ·have gk:=str_neq hkd;have HB:=eh (show bad1=true by rw[Hbad.out];exact decide_eq_true (.inl hkd));clear hkd Hbad;go_wp2;go_meet;exact⟨by rw[HB.out],rfl⟩
    case rest=>
     obtain⟨rfl,hwc⟩:=hcut;rw[hwc];clear hwc wc;cases bad1 with
     |true=>
      have HNo2:=eh (Hno.out (fun hf=>by
       have h:=of_decide_eq_true Hbad.out.symm;unfold bad1P at h;rcases h with h|h|h|h|h
       ·exact h hf.kind
       ·exact h hf.len
       ·exact h.2 (hf.a h.1)
       ·exact h.2 (hf.b h.1)
       ·exact h.2 (hf.n h.1)))
      go_wp2;exact HPf.out _ Hb4.out HNo2.out
     |false=>
      have hok1:=of_decide_eq_false Hbad.out.symm;have hlen:args.length=fg.size:=Decidable.byContradiction fun h=>hok1 (.inr (.inl h))
      have Hlen:=eh hlen;have Hok1:=eh hok1;clear hok1 hlen Hbad t0 t2 t3 t4 x1 x2 x4 x5;have c7:w4.cell? ⟨gc,7,none⟩=some (.slice As f.states.length cs):=(HC.out.below Hb4.out).blk.cell 7;have c5:w4.cell? ⟨gc,5,none⟩=some (.slice (some ⟨bn,on_,none⟩) f.nodes.length cn):=(HC.out.below Hb4.out).blk.cell 5;have lC4:=(HC.out.below Hb4.out).blk.lt;obtain⟨bad2,hbad2⟩:∃bad2:Bool,bad2=decide (bad2P f ⟨op,xa,xb,st,kd,xn,args⟩ ⟨fk,fg,fa,fb,fn,fs⟩):=⟨_,rfl⟩;have Hbad2:=eh hbad2;clear hbad2;go_upto_region 7 with(fail);go_cut [97]from 74 to 97 (fun v wx=>v=.bool bad2∧∃q,wx=w4.drewN q)
      case first=>
       clear Hok Hno Hr Hok1;cases fs with
       |true=>
        cases hin:inB st f.states.length with
        |true=>
         have Hin:=eh hin;have HB:=eh (show bad2=false by rw[Hbad2.out];exact decide_eq_false (fun h=>h (by show inB st f.states.length=true;exact hin)));clear hin Hbad2;go_quiet ((go_at_call 41;exact Calls.quiet_of_same (uM Hin.out _)));rename Nat=>q
         go_wp2;go_meet;exact⟨by rw[HB.out],q,rfl⟩
        |false=>
         have Hin:=eh hin;have HB:=eh (show bad2=true by rw[Hbad2.out];exact decide_eq_true (fun h=>by have h':inB st f.states.length=true:=h;rw[hin]at h';cases h'));clear hin Hbad2;go_quiet ((go_at_call 41;exact Calls.quiet_of_same (uM Hin.out _)));rename Nat=>q
         go_wp2;go_meet;exact⟨by rw[HB.out],q,rfl⟩
       |false=>
        by_cases hs:st= -1
        ·have gs:(st != -1)=false:=by simpa using hs
         have HB:=eh (show bad2=false by rw[Hbad2.out];exact decide_eq_false (fun h=>h (by show st= -1;exact hs)));clear hs Hbad2;go_quiet (fail);rename Nat=>q
         go_wp2;go_meet;exact⟨by rw[HB.out],q,rfl⟩
        ·have gs:(st != -1)=true:=by simpa using hs
         have HB:=eh (show bad2=true by rw[Hbad2.out];exact decide_eq_true (fun h=>hs h));clear hs Hbad2;go_quiet (fail);rename Nat=>q
         go_wp2;go_meet;exact⟨by rw[HB.out],q,rfl⟩
      case rest=>
       obtain⟨rfl,q,hwc⟩:=hcut;rw[hwc];clear hwc wc x3 t5 c7;cases bad2 with
       |true=>
        have HNo2:=eh (Hno.out (fun hf=>of_decide_eq_true Hbad2.out.symm hf.st));go_wp2;exact HPf.out _ (uC Hb4.out q) HNo2.out
       |false=>
        have hb2:¬bad2P f ⟨op,xa,xb,st,kd,xn,args⟩ ⟨fk,fg,fa,fb,fn,fs⟩:=of_decide_eq_false Hbad2.out.symm;have Hst:=eh (Classical.not_not.1 hb2);clear hb2;have HFO:=eh (show(∀(k:Nat) (a:Int),args[k]? =some a→argOk f ⟨fk,fg,fa,fb,fn,fs⟩ k a)→nodeOk p f blk i from fun h=>Hok.out ⟨Decidable.byContradiction fun h=>Hok1.out (.inl h),Hlen.out,fun h=>Decidable.byContradiction fun h'=>Hok1.out (.inr (.inr (.inl ⟨h,h'⟩))),fun h=>Decidable.byContradiction fun h'=>Hok1.out (.inr (.inr (.inr (.inl ⟨h,h'⟩)))),fun h=>Decidable.byContradiction fun h'=>Hok1.out (.inr (.inr (.inr (.inr ⟨h,h'⟩)))),Hst.out,h⟩);have HAN:=eh (show∀(k:Nat) (a:Int),args[k]? =some a→¬argOk f ⟨fk,fg,fa,fb,fn,fs⟩ k a→¬nodesOk p f blk from fun k a h1 h2=>Hno.out (fun hf=>h2 (hf.args k a h1)));clear Hbad2 Hok Hno Hok1 Hr;go_wp2;go_loopw [101] (fun jv wx=>∃(k q:Nat),k≤args.length∧jv=.int .i64 k∧Hid (∀(j:Nat) (a:Int),j<k→args[j]? =some a→argOk f ⟨fk,fg,fa,fb,fn,fs⟩ j a)∧wx=w4.drewN q) (fun jv _=>args.length-(intOf jv).toNat)
        case atStart=>exact⟨0,q,Nat.zero_le _,rfl,eh (fun j a h=>by omega),rfl⟩
        case round=>
         clear x6;obtain⟨k,q,hk,rfl,HA,rfl⟩:=hrel
         by_cases hkl:k<args.length
         ·have k0:(0:Int)≤k:=by omega
          have k1:(k:Int)<args.length:=by omega
          obtain⟨a,hak⟩:∃a,args[k]? =some a:=⟨_,List.getElem?_eq_getElem hkl⟩;obtain⟨br,orr,rfl,hbr,z0⟩:=uX HRR4.out (k:=k) hkl;have hav:args[k]?.getD 0=a:=by rw[hak];rfl
          rw[hav]at z0;have HAk:=eh hak;have hk1:(k:Int)+1≤fg.size:=by have:=Hlen.out;omega
          have lbr:br<w4.heap.size:=by have:=Hb4.out.size;omega
          clear hak hav;have d5:(w4.drewN q).cell? ⟨gc,5,none⟩=_:=c5;have dt1:(w4.drewN q).cell? ⟨g5,1,none⟩=_:=t1;have dz0:(w4.drewN q).cell? ⟨br,orr+k,none⟩=_:=z0;have dlC:gc<(w4.drewN q).heap.size:=lC4;have dlT:g5<(w4.drewN q).heap.size:=lT;have dlb:br<(w4.drewN q).heap.size:=lbr;have HN5:=eh (show RdL ndShape (w4.drewN q) S (some ⟨bn,on_,none⟩) f.nodes∧∀b,S b→b<(w4.drewN q).heap.size from⟨(HC.out.below Hb4.out).fn.nodes.keep (fun _ _=>rfl),fun b hb=>((HC.out.below Hb4.out).lt b hb).1⟩);clear z0 lbr;generalize hw5:w4.drewN q=w5 at*;have Hw5:=eh hw5;have Hb5:=eh (show Below w.heap.size w w5 from hw5▸uC Hb4.out q);clear hw5;cases hin:inB a f.nodes.length with
          |false=>
           have Hin:=eh hin;have HNo2:=eh (HAN.out k a HAk.out (fun h=>by
            have :inB a f.nodes.length=true:=by unfold inB;simp;exact⟨h.1,h.2.1⟩
            rw[hin]at this;cases this))
           clear hin;go_wp2;go_quiet ((go_at_call 41;exact Calls.quiet_of_same (uM Hin.out _)));rename Nat=>q2
           go_wp2;exact HPf.out _ (uC Hb5.out _) HNo2.out
          |true=>
           have hx:=uJ hin;obtain⟨m,rfl⟩:∃m:Nat,a=m:=⟨a.toNat,by omega⟩;have hml:m<f.nodes.length:=by omega
           have m0:(0:Int)≤m:=by omega
           have m1:(m:Int)<f.nodes.length:=by omega
           obtain⟨bm,om,A3,c3n,hAm,hSm,-,-,-,-,y4,-,-,-⟩:=rd_nd HN5.out.1 hml;cases hAm;have lbm:=HN5.out.2 bn hSm;have Hin:=eh hin;have harg:argOk f ⟨fk,fg,fa,fb,fn,fs⟩ k m↔(f.nodes.getD m default).kind=fg.extract k (k+1):=by
            unfold argOk;simp only[Int.toNat_natCast];exact⟨fun h=>h.2.2,fun h=>⟨m0,m1,h⟩⟩
           have Harg:=eh harg;clear hin hx harg;generalize(f.nodes.getD m default).kind=mk at*
           by_cases he:mk=fg.extract k (k+1)
           ·have ge:=str_eqq he;have HA2:=eh (show∀(j:Nat) (a:Int),j<k+1→args[j]? =some a→argOk f ⟨fk,fg,fa,fb,fn,fs⟩ j a from fun j a' hj h=>by
             by_cases e:j=k
             ·subst e;rw[HAk.out]at h;cases h;exact Harg.out.2 he
             ·exact HA.out j a' (by omega) h)
            clear he;go_wp2;go_quiet ((go_at_call 41;exact Calls.quiet_of_same (uM Hin.out _)));rename Nat=>q2
            go_wp2;go_roundw
            case rel=>exact⟨k+1,q+q2,by omega,by go_num,HA2,by rw[←Hw5.out];exact World.drewN_drewN _ _ _⟩
            case measure=>simp[intOf];omega
           ·have ge:=str_neq he;have HNo2:=eh (HAN.out k m HAk.out (fun h=>he (Harg.out.1 h)));clear he;go_wp2;go_quiet ((go_at_call 41;exact Calls.quiet_of_same (uM Hin.out _)));rename Nat=>q2
            go_wp2;exact HPf.out _ (uC Hb5.out _) HNo2.out
         ·have e:k=args.length:=by omega
          have hge:¬(k:Int)<args.length:=by omega
          have HO2:=eh (show∀j,j<i+1→nodeOk p f blk j from fun j hj=>by
           by_cases e2:j=i
           ·subst e2;exact HFO.out (fun k' a' h=>HA.out k' a' (by have:=(List.getElem?_eq_some_iff.1 h).1;omega) h)
           ·exact HO.out j (by omega))
          clear hkl e;go_wp2;go_roundw
          case rel=>exact⟨i+1,by omega,by go_num,HO2,eh (uC Hb4.out _)⟩
          case measure=>simp[intOf];omega
  ·obtain rfl:i=f.nodes.length:=by omega
   have hge:¬(f.nodes.length:Int)<f.nodes.length:=by omega
   clear hlt;go_wp2;exact HPt.out _ HB0.out (fun j hj=>HO.out j hj)
theorem str_eqb2(s t:ByteArray):(s.toList==t.toList)=decide (s=t):=by
 rw[Bool.eq_iff_iff];simp only[beq_iff_eq,decide_eq_true_eq];exact⟨fun h=>ByteArray.ext (Array.ext' (by rw[ByteArray.toList_eq,ByteArray.toList_eq]at h;exact h)),fun h=>by rw[h]⟩
theorem sI_list:sI.toList=[73]:=by rw[ByteArray.toList_eq];rfl
theorem sR_list:sR.toList=[82]:=by rw[ByteArray.toList_eq];rfl
theorem repB_size(s:ByteArray):∀n,(repB s n).size=n*s.size
 |0=>by rw[Nat.zero_mul];rfl
 |n+1=>by rw[repB,ByteArray.size_append,repB_size s n,Nat.succ_mul]
theorem of_41{w:World}{S:Nat→Prop}{gc gv:Nat}{p:Prg}{vs:List Vs}{f:Fn}{gb gp:Nat}{blk plc:List Int}{tv lv dv:Value}(hN:NodesIn w S gc gv p vs f gb gp blk plc tv lv dv){i:Nat}(hi:i<f.nodes.length)(hop:(ndAt f i).op=41):
 Calls Tryz.prog 50 #[.pointer (some ⟨gc,0,none⟩),.int .i64 i] w (OfPost w (formF p f blk i)):=by
 have hPP:∀fm w' r,formF p f blk i=r→Below w.heap.size w w'→(r.isSome=true→r=some fm)→OfPost w (formF p f blk i) (.returned (.tuple #[formV fm,.bool r.isSome])) w':=fun fm w' r h1 h2 h3=>by
  subst h1;exact⟨h2,fm,rfl,h3⟩
 have HP:=eh hPP;clear hPP;have HN:=eh hN;obtain⟨Ac,cc,Am,cm,An,cn,Ab,cb,As,cs,hC⟩:=hN.chk;have c5:w.cell? ⟨gc,5,none⟩=some (.slice An f.nodes.length cn):=hC.blk.cell 5;have lC:=hC.blk.lt;obtain⟨bn,on_,A1,c1n,hAn,hSn,v0,v1,v2,v3,v4,v5,v6,-⟩:=rd_nd hC.fn.nodes hi;subst hAn;have i0:(0:Int)≤i:=by omega
 have i1:(i:Int)<f.nodes.length:=by omega
 have hnd:=hN.nd;have lbn:=(hC.lt bn hSn).1;have hm:=uJ hN.mth;have mth0:0≤f.mth:=hm.1;have mth1:f.mth<p.methods.length:=hm.2;obtain⟨x,hxx⟩:∃x,ndAt f i=x:=⟨_,rfl⟩;have hxg:f.nodes.getD i default=x:=hxx;rw[hxg]at v0 v1 v2 v3 v4 v5 v6;have HC:=eh hC;obtain⟨op,xa,xb_,st,kd,xn,args⟩:=x;obtain rfl:op=41:=by
  have:=hop;rw[hxx]at this;exact this
 have Hx:=eh hxx;clear hxx hxg hop hN hC hm;generalize hpost:OfPost w (formF p f blk i)=Post at*;clear hpost;go_enter Tryz.func50,Tryz.ntmps50;go_upto_region 3 with(fail);have R2:=(Blk.new w 152 #[.string ⟨#[]⟩,.string ⟨#[]⟩,.bool false,.bool false,.bool false,.bool false]).alloc (.cells #[.int .i64 41,.int .i64 xa,.int .i64 xb_,.int .i64 st,.string kd,.int .i64 xn,.slice A1 args.length c1n] 40);have X2:=Blk.newAt (w:=w.alloc (.cells #[.string ⟨#[]⟩,.string ⟨#[]⟩,.bool false,.bool false,.bool false,.bool false] 152)) (g:=w.heap.size+1) (by simp) 40 #[.int .i64 41,.int .i64 xa,.int .i64 xb_,.int .i64 st,.string kd,.int .i64 xn,.slice A1 args.length c1n];have hb2:=((Below.refl w.heap.size w).alloc (Nat.le_refl _) (.cells #[.string ⟨#[]⟩,.string ⟨#[]⟩,.bool false,.bool false,.bool false,.bool false] 152)).alloc (by simp) (.cells #[.int .i64 41,.int .i64 xa,.int .i64 xb_,.int .i64 st,.string kd,.int .i64 xn,.slice A1 args.length c1n] 40);clear c5 v0 v1 v2 v3 v4 v5 v6 lbn lC;generalize(w.alloc (.cells #[.string ⟨#[]⟩,.string ⟨#[]⟩,.bool false,.bool false,.bool false,.bool false] 152)).alloc (.cells #[.int .i64 41,.int .i64 xa,.int .i64 xb_,.int .i64 st,.string kd,.int .i64 xn,.slice A1 args.length c1n] 40)=w2 at*;have HC2:=eh (HC.out.below hb2);have HN2:=eh (HN.out.below hb2);have x0:=X2.at0;have x1:=X2.at1;have x2:=X2.at2;have x4:w2.cell? ⟨w.heap.size+1,4,none⟩=some (.string kd):=X2.cell 4;have x5:w2.cell? ⟨w.heap.size+1,5,none⟩=some (.int .i64 xn):=X2.cell 5;have lR2:=R2.lt;have lX2:=X2.lt;obtain⟨b,k,hbl,-,hbi,-,-⟩:=HN.out.st.blk_at hi;have hF:formF p f blk i=if kd=sI∨kd=sR then some ⟨kd,repB kd (f.blocks.getD b default).preds.length,false,false,false,false⟩else none:=by
  unfold formF;rw[Hx.out,hbi];rfl
 have hkd:kd.size≤1000000:=by
  have:=HN.out.kinds i hi;rw[Hx.out]at this;exact this
 have hnb:(f.blocks.getD b default).preds.length≤1000000:=HN.out.prs b hbl;have e0:=uH HN2.out.bb (show i<blk.length by rw[HN.out.st.l1];exact hi);rw[hbi]at e0;have lgb:=HN2.out.bb.lt;obtain⟨bk,ok,B1,d1,B2,d2,B3,d3,B4,d4,hAb,hSb,y0,y1,y2,y3,-,-,-,-⟩:=rd_bk HC2.out.fn.blocks hbl;subst hAb;have lbk:=(HC2.out.lt bk hSb).1;have c6:w2.cell? ⟨gc,6,none⟩=some (.slice (some ⟨bk,ok,none⟩) f.blocks.length cb):=HC2.out.blk.cell 6;have c8:w2.cell? ⟨gc,8,none⟩=some (.slice (some ⟨gb,0,none⟩) f.nodes.length f.nodes.length):=HC2.out.blk.cell 8;have lgc2:=HC2.out.blk.lt;have b0:(0:Int)≤b:=by omega
 have b1:(b:Int)<f.blocks.length:=by omega
 clear hbi y0 y1 y2 mth0 mth1;generalize f.blocks.getD b default=xb at*;generalize xb.preds.length=n at*;have HF:=eh hF;clear hF;have T3:=Blk.new w2 152 #[.string kd,.string ⟨#[]⟩,.bool false,.bool false,.bool false,.bool false];have R3:=R2.alloc (.cells #[.string kd,.string ⟨#[]⟩,.bool false,.bool false,.bool false,.bool false] 152);have X3:=X2.alloc (.cells #[.string kd,.string ⟨#[]⟩,.bool false,.bool false,.bool false,.bool false] 152);have hb3:=hb2.alloc hb2.size (.cells #[.string kd,.string ⟨#[]⟩,.bool false,.bool false,.bool false,.bool false] 152);have e03:=(World.cell?_alloc_lt w2 (.cells #[.string kd,.string ⟨#[]⟩,.bool false,.bool false,.bool false,.bool false] 152) ⟨gb,i,none⟩ lgb).trans e0;have y33:=(World.cell?_alloc_lt w2 (.cells #[.string kd,.string ⟨#[]⟩,.bool false,.bool false,.bool false,.bool false] 152) ⟨bk,ok+b*4+3,none⟩ lbk).trans y3;have c63:=(World.cell?_alloc_lt w2 (.cells #[.string kd,.string ⟨#[]⟩,.bool false,.bool false,.bool false,.bool false] 152) ⟨gc,6,none⟩ lgc2).trans c6;have c83:=(World.cell?_alloc_lt w2 (.cells #[.string kd,.string ⟨#[]⟩,.bool false,.bool false,.bool false,.bool false] 152) ⟨gc,8,none⟩ lgc2).trans c8;have lgb3:gb<(w2.alloc (.cells #[.string kd,.string ⟨#[]⟩,.bool false,.bool false,.bool false,.bool false] 152)).heap.size:=by simp;omega
 have lbk3:bk<(w2.alloc (.cells #[.string kd,.string ⟨#[]⟩,.bool false,.bool false,.bool false,.bool false] 152)).heap.size:=by simp;omega
 have lgc3:gc<(w2.alloc (.cells #[.string kd,.string ⟨#[]⟩,.bool false,.bool false,.bool false,.bool false] 152)).heap.size:=by simp;omega
 go_upto_region 56 with(fail);obtain⟨g4,hg4⟩:∃g4,g4=w2.heap.size:=⟨_,rfl⟩;rw[←hg4]at T3 lX2⊢;clear hg4 R2 X2 hb2 e0 y3 c6 c8 x0 x1 x2 x4 x5 lgb lbk lgc2 lR2;generalize w2.alloc (.cells #[.string kd,.string ⟨#[]⟩,.bool false,.bool false,.bool false,.bool false] 152)=w3 at*;go_quiet (fail);rename Nat=>q
 have Z0:Hid (Blk (w3.drewN q) g4 152 #[.string kd,.string (repB kd 0),.bool false,.bool false,.bool false,.bool false]∧Blk (w3.drewN q) w.heap.size 152 #[.string ⟨#[]⟩,.string ⟨#[]⟩,.bool false,.bool false,.bool false,.bool false]∧Blk (w3.drewN q) (w.heap.size+1) 40 #[.int .i64 41,.int .i64 xa,.int .i64 xb_,.int .i64 st,.string kd,.int .i64 xn,.slice A1 args.length c1n]∧Below w.heap.size w (w3.drewN q)):=eh ⟨T3,R3,X3,uC hb3 q⟩;clear T3 R3 X3 hb3 e03 y33 c63 c83 lgb3 lbk3 lgc3;go_wp2;go_loopw [213] (fun jv wx=>∃k:Nat,k≤n∧jv=.int .i64 k∧Hid (Blk wx g4 152 #[.string kd,.string (repB kd k),.bool false,.bool false,.bool false,.bool false]∧Blk wx w.heap.size 152 #[.string ⟨#[]⟩,.string ⟨#[]⟩,.bool false,.bool false,.bool false,.bool false]∧Blk wx (w.heap.size+1) 40 #[.int .i64 41,.int .i64 xa,.int .i64 xb_,.int .i64 st,.string kd,.int .i64 xn,.slice A1 args.length c1n]∧Below w.heap.size w wx)) (fun jv _=>n-(intOf jv).toNat)
 case atStart=>exact⟨0,Nat.zero_le _,rfl,Z0⟩
 case round=>
  clear Z0;obtain⟨k,hk,rfl,Z⟩:=hrel;obtain⟨TT,RR,XX,hb⟩:=Z.out;have lT:=TT.lt;have lX:=XX.lt;have lR:=RR.lt;have t1:=TT.at1;have u1:=TT.frozen 1;have xx4:wr.cell? ⟨w.heap.size+1,4,none⟩=some (.string kd):=XX.cell 4
  by_cases hkn:k<n
  ·have k0:(0:Int)≤k:=by omega
   have k1:(k:Int)<n:=by omega
   have hrs:=repB_size kd k;have hsz:¬9223372036854775807<(repB kd k).size+kd.size:=by
    have :k*kd.size≤1000000*1000000:=Nat.mul_le_mul (by omega) hkd;omega
   have HZ:=eh (show Blk (wr.setCell ⟨g4,1,none⟩ (.string (repB kd k++kd))) g4 152 #[.string kd,.string (repB kd (k+1)),.bool false,.bool false,.bool false,.bool false]∧Blk (wr.setCell ⟨g4,1,none⟩ (.string (repB kd k++kd))) w.heap.size 152 #[.string ⟨#[]⟩,.string ⟨#[]⟩,.bool false,.bool false,.bool false,.bool false]∧Blk (wr.setCell ⟨g4,1,none⟩ (.string (repB kd k++kd))) (w.heap.size+1) 40 #[.int .i64 41,.int .i64 xa,.int .i64 xb_,.int .i64 st,.string kd,.int .i64 xn,.slice A1 args.length c1n]∧Below w.heap.size w (wr.setCell ⟨g4,1,none⟩ (.string (repB kd k++kd))) by
    refine⟨?_,RR.far (p:=⟨g4,1,none⟩) (by show w.heap.size≠g4;omega) _,XX.far (p:=⟨g4,1,none⟩) (by show w.heap.size+1≠g4;omega) _,hb.setCell (p:=⟨g4,1,none⟩) (by show w.heap.size≤g4;omega) _⟩;have:=TT.set_ 1 (.string (repB kd k++kd));simpa[repB]using this)
   clear TT RR XX hb hrs hkd;generalize repB kd k=rk at*;go_wp2;go_roundw
   case rel=>exact⟨k+1,by omega,by go_num,HZ⟩
   case measure=>simp[intOf];omega
  ·obtain rfl:k=n:=by omega
   have hge:¬(k:Int)<k:=by omega
   have t0:=TT.at0;have t2:=TT.at2;have t3:=TT.at3;have t4:wr.cell? ⟨g4,4,none⟩=some (.bool false):=TT.cell 4;have t5:wr.cell? ⟨g4,5,none⟩=some (.bool false):=TT.cell 5;clear hkn u1;generalize hrk:repB kd k=rk at*;have Hrk:=eh hrk;clear hrk;go_upto_region 60 with(fail);refine uE (S:=fun W=>W.cell? ⟨g4,0,none⟩=some (.string kd)∧W.cell? ⟨g4,1,none⟩=some (.string rk)∧W.cell? ⟨g4,2,none⟩=some (.bool false)∧W.cell? ⟨g4,3,none⟩=some (.bool false)∧W.cell? ⟨g4,4,none⟩=some (.bool false)∧W.cell? ⟨g4,5,none⟩=some (.bool false)∧W.cell? ⟨w.heap.size+1,4,none⟩=some (.string kd)) (fun _=>true) (by kernel_rfl) ⟨t0,t1,t2,t3,t4,t5,xx4⟩ (fun HS=>?_);have R4:Blk wr.drew w.heap.size 152 _:=RR;have hb4:Below w.heap.size w wr.drew:=hb.drew;clear t0 t1 t2 t3 t4 t5 xx4 TT RR XX hb lT lX lR;generalize wr.drew=w4 at*;refine uB 0 222 rfl HS (.inl ⟨rfl,fun W hW=>by obtain⟨h0,h1,h2,h3,h4,h5,h6⟩:=hW;go_simp;rfl⟩) ?_;simp only[pS];refine uB 1 223 rfl HS (.inl ⟨rfl,fun W hW=>by obtain⟨h0,h1,h2,h3,h4,h5,h6⟩:=hW;go_simp;rfl⟩) ?_;simp only[pS];refine uB 2 224 rfl HS (.inl ⟨rfl,fun W hW=>by obtain⟨h0,h1,h2,h3,h4,h5,h6⟩:=hW;go_simp;rfl⟩) ?_;simp only[pS]
   by_cases e1:kd=⟨#[73]⟩
   ·subst e1;have Hf:=eh (show formF p f blk i=some ⟨⟨#[73]⟩,rk,false,false,false,false⟩ by rw[HF.out,if_pos (.inl rfl),←Hrk.out]);refine uB 3 225 rfl HS (.inl ⟨rfl,fun W hW=>by obtain⟨h0,h1,h2,h3,h4,h5,h6⟩:=hW;go_simp;rfl⟩) ?_;simp only[pS];refine uB 4 226 rfl HS (.inl ⟨rfl,fun W hW=>by obtain⟨h0,h1,h2,h3,h4,h5,h6⟩:=hW;go_simp;rfl⟩) ?_;simp only[pS];refine uB (v:=undef) 5 227 rfl HS (.inr ⟨by rfl,rfl⟩) ?_;simp only[pS];refine uB (v:=undef) 6 228 rfl HS (.inr ⟨by rfl,rfl⟩) ?_;simp only[pS];refine uB (v:=undef) 7 229 rfl HS (.inr ⟨by rfl,rfl⟩) ?_;simp only[pS];refine uB 8 230 rfl HS (.inl ⟨rfl,fun W hW=>by obtain⟨h0,h1,h2,h3,h4,h5,h6⟩:=hW;go_simp;rfl⟩) ?_;simp only[pS];have r0:=R4.at0;have r1:=R4.at1;have r2:=R4.at2;have r3:=R4.at3;have r4:w4.cell? ⟨w.heap.size,4,none⟩=some (.bool false):=R4.cell 4;have r5:w4.cell? ⟨w.heap.size,5,none⟩=some (.bool false):=R4.cell 5;have f0:=R4.frozen 0;have f1:=R4.frozen 1;have f2:=R4.frozen 2;have f3:=R4.frozen 3;have f4:=R4.frozen 4;have f5:=R4.frozen 5;have lR4:=R4.lt;refine uN 9 rfl (fun K HK=>?_);go_simp;have R6:=R4.set6 (a:=.string (⟨#[73]⟩)) (b:=.string (rk)) (c:=.bool false) (d:=.bool false) (e:=.bool false) (f:=.bool false);have hb6:=below_set6 (a:=.string (⟨#[73]⟩)) (b:=.string (rk)) (c:=.bool false) (d:=.bool false) (e:=.bool false) (f:=.bool false) hb4 (Nat.le_refl w.heap.size);have K6:KB (fun b=>b≠w.heap.size) w4 (set6 w4 w.heap.size (.string (⟨#[73]⟩)) (.string (rk)) (.bool false) (.bool false) (.bool false) (.bool false)):=kb_set6;have old6:=fun(q:Addr) (v:Value) (hq:q.block≠w.heap.size) (h:w4.cell? q=some v)=>(World.cell?_of_block (K6 q.block hq)).trans h
    unfold set6 at R6 hb6 old6;obtain⟨s0,s1,s2,s3,s4,s5,s6⟩:=HS;have HS6:=And.intro (old6 ⟨g4,0,none⟩ _ (by show g4≠w.heap.size;omega) s0) (And.intro (old6 ⟨g4,1,none⟩ _ (by show g4≠w.heap.size;omega) s1) (And.intro (old6 ⟨g4,2,none⟩ _ (by show g4≠w.heap.size;omega) s2) (And.intro (old6 ⟨g4,3,none⟩ _ (by show g4≠w.heap.size;omega) s3) (And.intro (old6 ⟨g4,4,none⟩ _ (by show g4≠w.heap.size;omega) s4) (And.intro (old6 ⟨g4,5,none⟩ _ (by show g4≠w.heap.size;omega) s5) (old6 ⟨w.heap.size+1,4,none⟩ _ (by show w.heap.size+1≠w.heap.size;omega) s6))))));clear K6 old6 s0 s1 s2 s3 s4 s5 s6;refine HK.out _ _ (fun _=>HS6) ?_;clear HK r0 r1 r2 r3 r4 r5 f0 f1 f2 f3 f4 f5 R4 hb4 lR4;generalize(((((w4.setCell ⟨w.heap.size,0,none⟩ (.string (⟨#[73]⟩))).setCell ⟨w.heap.size,1,none⟩ (.string (rk))).setCell ⟨w.heap.size,2,none⟩ (.bool false)).setCell ⟨w.heap.size,3,none⟩ (.bool false)).setCell ⟨w.heap.size,4,none⟩ (.bool false)).setCell ⟨w.heap.size,5,none⟩ (.bool false)=w6 at*;try simp only[pS]
    refine uB 10 5 rfl HS6 (.inl ⟨rfl,fun W hW=>by obtain⟨h0,h1,h2,h3,h4,h5,h6⟩:=hW;go_simp;rfl⟩) ?_;simp only[pS];refine uD (by kernel_rfl) ?_ _;have q0:=R6.at0;have q1:=R6.at1;have q2:=R6.at2;have q3:=R6.at3;have q4:=R6.cell 4;have q5:=R6.cell 5;clear HS6;go_wp2;refine bodyPost_ret (v:=.tuple #[formV ⟨⟨#[73]⟩,rk,false,false,false,false⟩,.bool true]) (by simp[results,Tryz.results50,go_sem,q0,q1,q2,q3,q4,q5,sE,sI,sR,sII,sRR,sRI]) rfl ?_;exact HP.out ⟨⟨#[73]⟩,rk,false,false,false,false⟩ _ (some _) Hf.out hb6 (fun _=>rfl)
   ·have g1:(kd.toList==[73])=false:=by rw[←sI_list];exact(str_eqb2 kd sI).trans (decide_eq_false e1)
    obtain⟨bb,hbb⟩:∃bb:Bool,(kd.toList==[82])=bb:=⟨_,rfl⟩;have Hf:=eh (show formF p f blk i=if bb=true then some ⟨kd,rk,false,false,false,false⟩else none by
     rw[HF.out,←hbb,show(kd.toList==[82])=decide (kd=sR) by rw[←sR_list];exact str_eqb2 kd sR,←Hrk.out]
     by_cases h1:kd=sR
     ·rw[if_pos (.inr h1),if_pos (by simpa using h1)]
     ·rw[if_neg (show¬(kd=sI∨kd=sR)from not_or.2 ⟨e1,h1⟩),if_neg (by simpa using h1)])
    clear e1;refine uB 3 225 rfl HS (.inl ⟨rfl,fun W hW=>by obtain⟨h0,h1,h2,h3,h4,h5,h6⟩:=hW;go_simp;rfl⟩) ?_;simp only[pS];refine uB 4 226 rfl HS (.inl ⟨rfl,fun W hW=>by obtain⟨h0,h1,h2,h3,h4,h5,h6⟩:=hW;go_simp;rfl⟩) ?_;simp only[pS];refine uB 5 227 rfl HS (.inl ⟨rfl,fun W hW=>by obtain⟨h0,h1,h2,h3,h4,h5,h6⟩:=hW;go_simp;rfl⟩) ?_;simp only[pS];refine uB 6 228 rfl HS (.inl ⟨rfl,fun W hW=>by obtain⟨h0,h1,h2,h3,h4,h5,h6⟩:=hW;go_simp;rfl⟩) ?_;simp only[pS];refine uB 7 229 rfl HS (.inl ⟨rfl,fun W hW=>by obtain⟨h0,h1,h2,h3,h4,h5,h6⟩:=hW;go_simp;rfl⟩) ?_;simp only[pS];refine uB 8 230 rfl HS (.inl ⟨rfl,fun W hW=>by obtain⟨h0,h1,h2,h3,h4,h5,h6⟩:=hW;go_simp;rfl⟩) ?_;simp only[pS];clear hbb g1;have r0:=R4.at0;have r1:=R4.at1;have r2:=R4.at2;have r3:=R4.at3;have r4:w4.cell? ⟨w.heap.size,4,none⟩=some (.bool false):=R4.cell 4;have r5:w4.cell? ⟨w.heap.size,5,none⟩=some (.bool false):=R4.cell 5;have f0:=R4.frozen 0;have f1:=R4.frozen 1;have f2:=R4.frozen 2;have f3:=R4.frozen 3;have f4:=R4.frozen 4;have f5:=R4.frozen 5;have lR4:=R4.lt;refine uN 9 rfl (fun K HK=>?_);go_simp;have R6:=R4.set6 (a:=.string (kd)) (b:=.string (rk)) (c:=.bool false) (d:=.bool false) (e:=.bool false) (f:=.bool false);have hb6:=below_set6 (a:=.string (kd)) (b:=.string (rk)) (c:=.bool false) (d:=.bool false) (e:=.bool false) (f:=.bool false) hb4 (Nat.le_refl w.heap.size);have K6:KB (fun b=>b≠w.heap.size) w4 (set6 w4 w.heap.size (.string (kd)) (.string (rk)) (.bool false) (.bool false) (.bool false) (.bool false)):=kb_set6;have old6:=fun(q:Addr) (v:Value) (hq:q.block≠w.heap.size) (h:w4.cell? q=some v)=>(World.cell?_of_block (K6 q.block hq)).trans h
    unfold set6 at R6 hb6 old6;obtain⟨s0,s1,s2,s3,s4,s5,s6⟩:=HS;have HS6:=And.intro (old6 ⟨g4,0,none⟩ _ (by show g4≠w.heap.size;omega) s0) (And.intro (old6 ⟨g4,1,none⟩ _ (by show g4≠w.heap.size;omega) s1) (And.intro (old6 ⟨g4,2,none⟩ _ (by show g4≠w.heap.size;omega) s2) (And.intro (old6 ⟨g4,3,none⟩ _ (by show g4≠w.heap.size;omega) s3) (And.intro (old6 ⟨g4,4,none⟩ _ (by show g4≠w.heap.size;omega) s4) (And.intro (old6 ⟨g4,5,none⟩ _ (by show g4≠w.heap.size;omega) s5) (old6 ⟨w.heap.size+1,4,none⟩ _ (by show w.heap.size+1≠w.heap.size;omega) s6))))));clear K6 old6 s0 s1 s2 s3 s4 s5 s6;refine HK.out _ _ (fun _=>HS6) ?_;clear HK r0 r1 r2 r3 r4 r5 f0 f1 f2 f3 f4 f5 R4 hb4 lR4;generalize(((((w4.setCell ⟨w.heap.size,0,none⟩ (.string (kd))).setCell ⟨w.heap.size,1,none⟩ (.string (rk))).setCell ⟨w.heap.size,2,none⟩ (.bool false)).setCell ⟨w.heap.size,3,none⟩ (.bool false)).setCell ⟨w.heap.size,4,none⟩ (.bool false)).setCell ⟨w.heap.size,5,none⟩ (.bool false)=w6 at*;try simp only[pS]
    refine uB 10 5 rfl HS6 (.inl ⟨rfl,fun W hW=>by obtain⟨h0,h1,h2,h3,h4,h5,h6⟩:=hW;go_simp;rfl⟩) ?_;simp only[pS];refine uD (by kernel_rfl) ?_ _;have q0:=R6.at0;have q1:=R6.at1;have q2:=R6.at2;have q3:=R6.at3;have q4:=R6.cell 4;have q5:=R6.cell 5;clear HS6;go_wp2;refine bodyPost_ret (v:=.tuple #[formV ⟨kd,rk,false,false,false,false⟩,.bool bb]) (by simp[results,Tryz.results50,go_sem,q0,q1,q2,q3,q4,q5,sE,sI,sR,sII,sRR,sRI]) rfl ?_;cases bb with
    |true=>exact HP.out ⟨kd,rk,false,false,false,false⟩ _ (some _) (Hf.out.trans (if_pos rfl)) hb6 (fun _=>rfl)
    |false=>exact HP.out ⟨kd,rk,false,false,false,false⟩ _ none (Hf.out.trans (if_neg (by simp))) hb6 (fun h=>(by cases h))
def plainL:List (Int×Form):=[(1,⟨sI,sE,false,false,true,false⟩),(2,⟨sR,sE,false,false,false,false⟩),(18,⟨sI,sI,false,false,false,false⟩),(21,⟨sI,sRR,false,false,false,false⟩),(31,⟨sI,sR,false,false,false,true⟩),(34,⟨sI,sE,false,false,false,true⟩),(35,⟨sE,sI,false,false,false,false⟩),(46,⟨sE,sI,false,false,false,false⟩),(42,⟨sE,sE,false,false,false,true⟩),(43,⟨sE,sE,false,false,false,true⟩),(45,⟨sE,sE,false,false,false,false⟩),(8,⟨sI,sII,false,false,false,false⟩),(9,⟨sI,sII,false,false,false,false⟩),(10,⟨sI,sII,false,false,false,false⟩),(11,⟨sI,sII,false,false,false,true⟩),(12,⟨sI,sII,false,false,false,true⟩),(13,⟨sI,sII,false,false,false,false⟩),(14,⟨sI,sII,false,false,false,false⟩),(15,⟨sI,sII,false,false,false,false⟩),(16,⟨sI,sII,false,false,false,false⟩),(17,⟨sI,sII,false,false,false,false⟩),(19,⟨sI,sII,false,false,false,false⟩),(20,⟨sI,sII,false,false,false,false⟩)]
theorem of_plain{w:World}{S:Nat→Prop}{gc gv:Nat}{p:Prg}{vs:List Vs}{f:Fn}{gb gp:Nat}{blk plc:List Int}{tv lv dv:Value}(hN:NodesIn w S gc gv p vs f gb gp blk plc tv lv dv){i:Nat}(hi:i<f.nodes.length){fm:Form}(hop:((ndAt f i).op,fm)∈plainL):
 Calls Tryz.prog 50 #[.pointer (some ⟨gc,0,none⟩),.int .i64 i] w (OfPost w (formF p f blk i)):=by
 have hPP:∀fm w' r,formF p f blk i=r→Below w.heap.size w w'→(r.isSome=true→r=some fm)→OfPost w (formF p f blk i) (.returned (.tuple #[formV fm,.bool r.isSome])) w':=fun fm w' r h1 h2 h3=>by
  subst h1;exact⟨h2,fm,rfl,h3⟩
 have HP:=eh hPP;clear hPP;have HN:=eh hN;obtain⟨Ac,cc,Am,cm,An,cn,Ab,cb,As,cs,hC⟩:=hN.chk;have c5:w.cell? ⟨gc,5,none⟩=some (.slice An f.nodes.length cn):=hC.blk.cell 5;have lC:=hC.blk.lt;obtain⟨bn,on_,A1,c1n,hAn,hSn,v0,v1,v2,v3,v4,v5,v6,-⟩:=rd_nd hC.fn.nodes hi;subst hAn;have i0:(0:Int)≤i:=by omega
 have i1:(i:Int)<f.nodes.length:=by omega
 have hnd:=hN.nd;have lbn:=(hC.lt bn hSn).1;have hm:=uJ hN.mth;have mth0:0≤f.mth:=hm.1;have mth1:f.mth<p.methods.length:=hm.2;obtain⟨x,hxx⟩:∃x,ndAt f i=x:=⟨_,rfl⟩;have hxg:f.nodes.getD i default=x:=hxx;rw[hxg]at v0 v1 v2 v3 v4 v5 v6;have HC:=eh hC;obtain⟨op,xa,xb,st,kd,xn,args⟩:=x;rw[hxx]at hop;have Hop:=eh hop;have Hx:=eh hxx;clear hxx hxg hop hN hC hm;generalize hpost:OfPost w (formF p f blk i)=Post at*;clear hpost;go_enter Tryz.func50,Tryz.ntmps50;go_upto_region 3 with(fail);have R2:=(Blk.new w 152 #[.string ⟨#[]⟩,.string ⟨#[]⟩,.bool false,.bool false,.bool false,.bool false]).alloc (.cells #[.int .i64 op,.int .i64 xa,.int .i64 xb,.int .i64 st,.string kd,.int .i64 xn,.slice A1 args.length c1n] 40);have X2:=Blk.newAt (w:=w.alloc (.cells #[.string ⟨#[]⟩,.string ⟨#[]⟩,.bool false,.bool false,.bool false,.bool false] 152)) (g:=w.heap.size+1) (by simp) 40 #[.int .i64 op,.int .i64 xa,.int .i64 xb,.int .i64 st,.string kd,.int .i64 xn,.slice A1 args.length c1n];have hb2:=((Below.refl w.heap.size w).alloc (Nat.le_refl _) (.cells #[.string ⟨#[]⟩,.string ⟨#[]⟩,.bool false,.bool false,.bool false,.bool false] 152)).alloc (by simp) (.cells #[.int .i64 op,.int .i64 xa,.int .i64 xb,.int .i64 st,.string kd,.int .i64 xn,.slice A1 args.length c1n] 40);clear c5 v0 v1 v2 v3 v4 v5 v6 lbn lC;generalize(w.alloc (.cells #[.string ⟨#[]⟩,.string ⟨#[]⟩,.bool false,.bool false,.bool false,.bool false] 152)).alloc (.cells #[.int .i64 op,.int .i64 xa,.int .i64 xb,.int .i64 st,.string kd,.int .i64 xn,.slice A1 args.length c1n] 40)=w2 at*;have HC2:=eh (HC.out.below hb2);have HN2:=eh (HN.out.below hb2);have x0:=X2.at0;have x1:=X2.at1;have x2:=X2.at2;have x4:w2.cell? ⟨w.heap.size+1,4,none⟩=some (.string kd):=X2.cell 4;have x5:w2.cell? ⟨w.heap.size+1,5,none⟩=some (.int .i64 xn):=X2.cell 5;have lR2:=R2.lt;have lX2:=X2.lt;have r0:=R2.at0;have r1:=R2.at1;have r2:=R2.at2;have r3:=R2.at3;have r4:w2.cell? ⟨w.heap.size,4,none⟩=some (.bool false):=R2.cell 4;have r5:w2.cell? ⟨w.heap.size,5,none⟩=some (.bool false):=R2.cell 5;have f0:=R2.frozen 0;have f1:=R2.frozen 1;have f2:=R2.frozen 2;have f3:=R2.frozen 3;have f4:=R2.frozen 4;have f5:=R2.frozen 5;have hop:=Hop.out;clear Hop;unfold plainL at hop;simp only[List.mem_cons,Prod.mk.injEq,List.not_mem_nil,or_false]at hop;rcases hop with⟨rfl,hf⟩|⟨rfl,hf⟩|⟨rfl,hf⟩|⟨rfl,hf⟩|⟨rfl,hf⟩|⟨rfl,hf⟩|⟨rfl,hf⟩|⟨rfl,hf⟩|⟨rfl,hf⟩|⟨rfl,hf⟩|⟨rfl,hf⟩|⟨rfl,hf⟩|⟨rfl,hf⟩|⟨rfl,hf⟩|⟨rfl,hf⟩|⟨rfl,hf⟩|⟨rfl,hf⟩|⟨rfl,hf⟩|⟨rfl,hf⟩|⟨rfl,hf⟩|⟨rfl,hf⟩|⟨rfl,hf⟩|⟨rfl,hf⟩
 all_goals
  have Hf:=eh (show formF p f blk i=some fm by rw[hf];unfold formF;rw[Hx.out];rfl);have HE:=eh hf;clear hf;go_wp2;refine bodyPost_ret (v:=.tuple #[formV fm,.bool true]) (by rw[HE.out];simp[results,Tryz.results50,go_sem,sE,sI,sR,sII,sRR,sRI,r0,r1,r2,r3,r4,r5,lR2]) rfl ?_;exact HP.out fm _ (some _) Hf.out (below_set6 hb2 (Nat.le_refl _)) (fun _=>rfl)
def RaftPost(w:World)(r:Option ByteArray)(e:Ending)(w':World):Prop:=∃c:Int,e=.returned (.tuple #[.string (r.getD sE),.int .i64 c])∧(r.isSome=true↔c=0)∧Below w.heap.size w w'
theorem rafter_any(Ac Am:Option Addr)(cc cm:Nat)(p:Prg)(x:Ins)(m:Nat)(s:ByteArray)(w:World)(hr:RdP w w.heap.size Ac Am p)(hp:POk p)(hm:m<p.methods.length)(mine:Mth)(hmine:p.methods.getD m default=mine)(hk:mine.pa.size+mine.lo.size≤1000)
 (hv:insBad p.classes p.methods.length (mine.pa.size+mine.lo.size) mine.code.length x=0)(hs:s.size≤12)(hf1:(effF p mine x).1.size≤1000)(hf2:(effF p mine x).2.1.size≤1000):
 Calls Tryz.prog 74 #[pv Ac cc Am cm p,.int .i64 m,iv x,.string s] w (RaftPost w (aftF p mine x s)):=by
 have HPs:=eh (fun b w' (h1:aftF p mine x s=some b) (h2:Below w.heap.size w w')=>(show RaftPost w (aftF p mine x s) (.returned (.tuple #[.string b,.int .i64 0])) w' from by rw[h1];exact⟨0,rfl,by simp,h2⟩));have HPn:=eh (fun c w' (h1:aftF p mine x s=none) (hc:c≠0) (h2:Below w.heap.size w w')=>(show RaftPost w (aftF p mine x s) (.returned (.tuple #[.string ⟨#[]⟩,.int .i64 c])) w' from by rw[h1];exact⟨c,rfl,by simp[hc],h2⟩));have hb2:=((Below.refl w.heap.size w).alloc (Nat.le_refl _) (.cells #[.slice Ac p.classes.length cc,.slice Am p.methods.length cm] 31)).alloc (by simp) (.cells #[.int .i64 x.op,.int .i64 x.a,.int .i64 x.b,.int .i64 x.n] 24);have hE:=fun W (hb:Below w.heap.size w W)=>reffect_any Ac Am cc cm p x m W ((hr.below hb (Nat.le_refl _)).more hb.size) hp hm mine hmine hk hv
 have HE:=eh hE;have bP:=(Blk.new w 31 #[.slice Ac p.classes.length cc,.slice Am p.methods.length cm]).alloc (.cells #[.int .i64 x.op,.int .i64 x.a,.int .i64 x.b,.int .i64 x.n] 24);have bX:=Blk.newAt (w:=w.alloc (.cells #[.slice Ac p.classes.length cc,.slice Am p.methods.length cm] 31)) (g:=w.heap.size+1) (by simp) 24 #[.int .i64 x.op,.int .i64 x.a,.int .i64 x.b,.int .i64 x.n];obtain⟨op,xa,xb,xn⟩:=x;simp only at hb2 bP bX;have p0:=bP.at0;have p1:=bP.at1;have x0:=bX.at0;have x1:=bX.at1;have x2:=bX.at2;have x3:=bX.at3;have lP:=bP.lt;have lX:=bX.lt;have hl1:w.heap.size≤w.heap.size:=Nat.le_refl _;have Hf1:=eh hf1;have Hf2:=eh hf2;generalize hpost:RaftPost w (aftF p mine ⟨op,xa,xb,xn⟩ s)=Post at*;clear hpost hE hr hp hm hmine hk hv hf1 hf2 hl1;go_enter Tryz.func74,Tryz.ntmps74;go_upto_region 1 with(fail);generalize(w.alloc (.cells #[.slice Ac p.classes.length cc,.slice Am p.methods.length cm] 31)).alloc (.cells #[.int .i64 op,.int .i64 xa,.int .i64 xb,.int .i64 xn] 24)=w2 at*
 by_cases h6:op=6
 ·subst h6
  by_cases g1:s.size<1
  ·have HN:=eh (show aftF p mine ⟨6,xa,xb,xn⟩ s=none by unfold aftF;rw[if_pos rfl,if_pos g1]);have k1:decide ((s.size:Int)<1)=true:=by simp;omega
   clear g1;go_wp2;exact HPn.out 108 _ HN.out (by decide) hb2
  ·have HS:=eh (show aftF p mine ⟨6,xa,xb,xn⟩ s=some (s.extract 0 (s.size-1)) by unfold aftF;rw[if_pos rfl,if_neg g1]);have k1:decide ((s.size:Int)<1)=false:=by simp;omega
   have k2:(s.size:Int)-1=((s.size-1:Nat):Int):=by omega
   clear g1;go_wp2;exact HPs.out _ _ HS.out hb2
 ·by_cases h5:op=5
  ·subst h5
   by_cases g1:s.size<1
   ·have HN:=eh (show aftF p mine ⟨5,xa,xb,xn⟩ s=none by unfold aftF;rw[if_neg (show¬(5:Int)=6 by decide),if_pos rfl,if_pos g1]);have k1:decide ((s.size:Int)<1)=true:=by simp;omega
    clear g1 h6;go_wp2;exact HPn.out 108 _ HN.out (by decide) hb2
   ·have HC0:=(show aftF p mine ⟨5,xa,xb,xn⟩ s=chkF 5 (s++s.extract (s.size-1) s.size) by unfold aftF;rw[if_neg (show¬(5:Int)=6 by decide),if_pos rfl,if_neg g1]);have k1:decide ((s.size:Int)<1)=false:=by simp;omega
    have k2:(s.size:Int)-1=((s.size-1:Nat):Int):=by omega
    have hq:(s.extract (s.size-1) s.size).size=1:=by rw[ByteArray.size_extract];omega
    have o1:¬9223372036854775807<s.size+(s.extract (s.size-1) s.size).size:=by omega
    have o2:¬9223372036854775807<s.size+(s.size-(s.size-1)):=by omega
    clear hq h6 g1;go_upto_region 20 with(fail);generalize s++s.extract (s.size-1) s.size=b at*;have Hc:=eh HC0;clear HC0 o1 o2 k1 k2
    by_cases h12:12<b.size
    ·have HN:=eh (Hc.out.trans (if_pos (.inl h12)));have k12:decide ((12:Int)<b.size)=true:=by simp;omega
     clear h12;go_wp2;exact HPn.out 108 _ HN.out (by decide) hb2
    ·have k12:decide ((12:Int)<b.size)=false:=by simp;omega
     have HS:=eh (Hc.out.trans (if_neg (fun h=>h.elim h12 (fun h=>absurd h.1 (by decide)))));clear h12;go_wp2;exact HPs.out _ _ HS.out hb2
  ·by_cases h7:op=7
   ·subst h7
    by_cases g1:s.size<2
    ·have HN:=eh (show aftF p mine ⟨7,xa,xb,xn⟩ s=none by unfold aftF;rw[if_neg (show¬(7:Int)=6 by decide),if_neg (show¬(7:Int)=5 by decide),if_pos rfl,if_pos g1]);have k1:decide ((s.size:Int)<2)=true:=by simp;omega
     clear g1 h6 h5;go_wp2;exact HPn.out 108 _ HN.out (by decide) hb2
    ·have HC0:=(show aftF p mine ⟨7,xa,xb,xn⟩ s=chkF 7 (s.extract 0 (s.size-2)++s.extract (s.size-1) s.size++s.extract (s.size-2) (s.size-1)) by unfold aftF;rw[if_neg (show¬(7:Int)=6 by decide),if_neg (show¬(7:Int)=5 by decide),if_pos rfl,if_neg g1]);have k1:decide ((s.size:Int)<2)=false:=by simp;omega
     have k2:(s.size:Int)-1=((s.size-1:Nat):Int):=by omega
     have k3:(s.size:Int)-2=((s.size-2:Nat):Int):=by omega
     have j1:(0:Int)≤((s.size-2:Nat):Int):=by omega
     have j2:((s.size-2:Nat):Int)≤((s.size-1:Nat):Int):=by omega
     have j3:((s.size-1:Nat):Int)≤(s.size:Int):=by omega
     have hq1:(s.extract 0 (s.size-2)).size=s.size-2:=by rw[ByteArray.size_extract];omega
     have hq2:(s.extract (s.size-1) s.size).size=1:=by rw[ByteArray.size_extract];omega
     have hq3:(s.extract (s.size-2) (s.size-1)).size=1:=by rw[ByteArray.size_extract];omega
     have o1:¬9223372036854775807<(s.extract 0 (s.size-2)).size+(s.extract (s.size-1) s.size).size:=by omega
     have o2:¬9223372036854775807<(s.extract 0 (s.size-2)++s.extract (s.size-1) s.size).size+(s.extract (s.size-2) (s.size-1)).size:=by rw[ByteArray.size_append];omega
     clear hq1 hq2 hq3 h6 h5 g1;have z1:IntKind.i64.wrap ((s.size:Int)-1)=((s.size-1:Nat):Int):=(IntWalk.i64_in _ (by omega)).trans k2;have z2:IntKind.i64.wrap ((s.size:Int)-2)=((s.size-2:Nat):Int):=(IntWalk.i64_in _ (by omega)).trans k3;go_upto_region 19 with(fail);go_quiet (fail);rename Nat=>q
     go_upto_region 20 with(fail);generalize s.extract 0 (s.size-2)++s.extract (s.size-1) s.size++s.extract (s.size-2) (s.size-1)=b at*;have Hc:=eh HC0;clear HC0 o1 o2 k1 k2 k3 j1 j2 j3 z1 z2
     by_cases h12:12<b.size
     ·have HN:=eh (Hc.out.trans (if_pos (.inl h12)));have k12:decide ((12:Int)<b.size)=true:=by simp;omega
      clear h12;go_wp2;exact HPn.out 108 _ HN.out (by decide) (uC hb2 _)
     ·have k12:decide ((12:Int)<b.size)=false:=by simp;omega
      have HS:=eh (Hc.out.trans (if_neg (fun h=>h.elim h12 (fun h=>absurd h.1 (by decide)))));clear h12;go_wp2;exact HPs.out _ _ HS.out (uC hb2 _)
   ·have e5:(op==5)=false:=by simpa using h5
    have e6:(op==6)=false:=by simpa using h6
    have e7:(op==7)=false:=by simpa using h7
    have HD:=eh (show aftF p mine ⟨op,xa,xb,xn⟩ s=if s.size<(effF p mine ⟨op,xa,xb,xn⟩).1.size then none else if s.extract (s.size-(effF p mine ⟨op,xa,xb,xn⟩).1.size) s.size≠(effF p mine ⟨op,xa,xb,xn⟩).1 then none else chkF op (s.extract 0 (s.size-(effF p mine ⟨op,xa,xb,xn⟩).1.size)++(effF p mine ⟨op,xa,xb,xn⟩).2.1) by unfold aftF;rw[if_neg h6,if_neg h5,if_neg h7]);clear h5 h6 h7;go_wp2_with fail;refine(HE.out _ hb2).mono ?_;rintro e w3 ⟨rfl,hb23⟩;have hb3:=hb2.trans (hb23.mono hb2.size);have bX3:=bX.below hb23 lX;clear x0 x1 x2 x3 p0 p1 bX bP lP lX hb2 hb23;have x0:=bX3.at0;have lX:=bX3.lt;clear bX3;have f1:=Hf1.out;have f2:=Hf2.out;generalize effF p mine ⟨op,xa,xb,xn⟩=ef at*;obtain⟨po,pu,eb⟩:=ef;simp only at f1 f2 HD⊢
    by_cases g1:s.size<po.size
    ·have HN:=eh (HD.out.trans (if_pos g1));have k1:decide (s.size<po.size)=true:=by simp;omega
     clear HD;go_wp2;exact HPn.out 108 _ HN.out (by decide) hb3
    ·have k1:decide (s.size<po.size)=false:=by simp;omega
     have k2:(s.size:Int)-po.size=((s.size-po.size:Nat):Int):=by omega
     have j1:(0:Int)≤((s.size-po.size:Nat):Int):=by omega
     have j2:((s.size-po.size:Nat):Int)≤(s.size:Int):=by omega
     by_cases g2:s.extract (s.size-po.size) s.size=po
     ·have HC0:=HD.out.trans ((if_neg g1).trans (if_neg (fun h=>h g2)));have gs:=(str_eqb2 (s.extract (s.size-po.size) s.size) po).trans (decide_eq_true g2);have hq1:(s.extract 0 (s.size-po.size)).size=s.size-po.size:=by rw[ByteArray.size_extract];omega
      have o1:¬9223372036854775807<(s.extract 0 (s.size-po.size)).size+pu.size:=by omega
      have o2:¬9223372036854775807<s.size-po.size+pu.size:=by omega
      clear hq1 g2 HD;go_upto_region 20 with(fail);generalize s.extract 0 (s.size-po.size)++pu=b at*;have Hc:=eh HC0;clear HC0 o1 o2 k1 k2 j1 j2 gs g1
      by_cases h12:12<b.size
      ·have HN:=eh (Hc.out.trans (if_pos (.inl h12)));have k12:decide ((12:Int)<b.size)=true:=by simp;omega
       clear h12;go_wp2;exact HPn.out 108 _ HN.out (by decide) hb3
      ·have k12:decide ((12:Int)<b.size)=false:=by simp;omega
       by_cases h33:op=33
       ·have e33:(op==33)=true:=by simpa using h33
        by_cases hbe:b.toList=[]
        ·have kbe:b.toList.isEmpty=true:=by simpa using hbe
         have HS:=eh (Hc.out.trans (if_neg (fun h=>h.elim h12 (fun h=>h.2 hbe))));clear h12 h33 hbe;go_wp2;exact HPs.out _ _ HS.out hb3
        ·have kbe:b.toList.isEmpty=false:=by simpa using hbe
         have HN:=eh (Hc.out.trans (if_pos (.inr ⟨h33,hbe⟩)));clear h12 h33 hbe;go_wp2;exact HPn.out 108 _ HN.out (by decide) hb3
       ·have e33:(op==33)=false:=by simpa using h33
        have HS:=eh (Hc.out.trans (if_neg (fun h=>h.elim h12 (fun h=>h33 h.1))));clear h12 h33;go_wp2;exact HPs.out _ _ HS.out hb3
     ·have HN:=eh (HD.out.trans ((if_neg g1).trans (if_pos g2)));have gs:=(str_eqb2 (s.extract (s.size-po.size) s.size) po).trans (decide_eq_false g2);clear g2 HD;go_wp2;exact HPn.out 102 _ HN.out (by decide) hb3
end Go.Proofs.YtgbgbmdiomhfiaaGreatDoor