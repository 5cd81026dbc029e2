/-
 PgRefMay, Rv3.
-/
import Derived.StillTailTactics
import Derived.Test.YtgbgbmdiomhfiaaGreatDoorJPgEff3
import Derived.Test.YtgbgbmdiomhfiaaGreatDoorJVr8
import Derived.Test.YtgbgbmdiomhfiaaGreatDoorJRv2
set_option linter.unusedSimpArgs false
set_option linter.unusedVariables false
set_option maxHeartbeats 8000000
set_option maxRecDepth 100000
namespace Go.Proofs.YtgbgbmdiomhfiaaGreatDoor
open Go.RowKit Go.Maps
def RefFault(w:World)(f:Flt)(e:Ending)(w':World):Prop:=∃A n c,e=.returned (.agg #[.int .i64 (codeOf f.1),.slice A n c])∧n≤2∧Rd w' w'.heap.size 1 A n (ints f.2)∧Below w.heap.size w w'
theorem ref_there{w w1:World}{r g:Nat}{c m pc:Int}{f:Flt}(hR:Blk w1 r 108 #[.int .i64 0,.slice none 0 0])(hg:Blk w1 g 3 #[.int .i64 m,.int .i64 pc])(hb:Below w.heap.size w w1)(hr:w.heap.size≤r)(h1:codeOf f.1=c)(h2:f.2=[m,pc]):
 RefFault w f (.returned (.agg #[.int .i64 c,.slice (some ⟨g,0,none⟩) 2 2])) ((w1.setCell ⟨r,0,none⟩ (.int .i64 c)).setCell ⟨r,1,none⟩ (.slice (some ⟨g,0,none⟩) 2 2)):=by
 have hne:g≠r:=hg.ne_ hR (by decide);have hG:=(hg.far (p:=⟨r,0,none⟩) hne (.int .i64 c)).far (p:=⟨r,1,none⟩) hne (.slice (some ⟨g,0,none⟩) 2 2);exact⟨_,_,_,by rw[h1],by omega,by rw[h2];exact Blk.rd (xs:=ints [m,pc]) hG rfl hG.lt,(hb.setCell hr _).setCell hr _⟩
theorem ref_bare{w w1:World}{r:Nat}{c:Int}{f:Flt}(hb:Below w.heap.size w w1)(hr:w.heap.size≤r)(h1:codeOf f.1=c)(h2:f.2=[]):
 RefFault w f (.returned (.agg #[.int .i64 c,.slice none 0 0])) ((w1.setCell ⟨r,0,none⟩ (.int .i64 c)).setCell ⟨r,1,none⟩ (.slice none 0 0)):=
 ⟨_,_,_,by rw[h1],by omega,by rw[h2];exact Rd.nil _ _ _ _,(hb.setCell hr _).setCell hr _⟩
theorem rmay_any(w:World)(Ac Am:Option Addr)(cc cm:Nat)(p:Prg)(hr:RdP w w.heap.size Ac Am p)(hp:POk p):
 Calls Tryz.prog 39 #[pv Ac cc Am cm p] w (RefFault w (mayP p)):=by
 have hcl:=hp.cl;have hms:=hp.ms;have HB:=eh (fun(w1:World) (c:Int) (hb:Below w.heap.size w w1)=>ref_bare (w:=w) (w1:=w1) (r:=w.heap.size+1) (c:=c) (f:=mayP p) hb (by omega));have HT:=eh (fun(w1:World) (g:Nat) (c m pc:Int) hR hg (hb:Below w.heap.size w w1)=>ref_there (w:=w) (w1:=w1) (r:=w.heap.size+1) (g:=g) (c:=c) (m:=m) (pc:=pc) (f:=mayP p) hR hg hb (by omega))
 by_cases hmany:manyP p
 ·have Hm:=eh (may_many hmany);have Hmany:=eh hmany;clear hmany;go_enter Tryz.func39,Tryz.ntmps39;go_upto_region 1 with(fail);go_cut [25]from 10 to 25 (fun v wx=>v=.bool true∧wx=(w.alloc (.cells #[.slice Ac p.classes.length cc,.slice Am p.methods.length cm] 31)).alloc (.cells #[.int .i64 0,.slice none 0 0] 108))
  case first=>
   go_wp2
   all_goals
    go_meet;refine⟨congrArg Value.bool ?_,rfl⟩;have hmm:=Hmany.out;unfold manyP at hmm;simp only[Bool.or_eq_true,decide_eq_true_eq]<;>omega
  case rest=>
   obtain⟨rfl,hwx⟩:=hcut;subst hwx;go_wp2_with fail;refine(bare_any _ _).mono ?_;rintro e w1 ⟨rfl,hb1⟩;have hR:=(Blk.newAt (w:=w.alloc (.cells #[.slice Ac p.classes.length cc,.slice Am p.methods.length cm] 31)) (g:=w.heap.size+1) (by simp) 108 #[.int .i64 0,.slice none 0 0]).below hb1 (by simp);have hw1:=(((Below.refl w.heap.size w).alloc (Nat.le_refl _) (.cells #[.slice Ac p.classes.length cc,.slice Am p.methods.length cm] 31)).alloc (by simp) (.cells #[.int .i64 0,.slice none 0 0] 108)).trans (hb1.mono (by simp;omega));have r0:=hR.at0;have r1:=hR.at1;have f0:=hR.frozen 0;have f1:=hR.frozen 1;have hl:=hR.lt;have hF:=(hR.set_ 0 (.int .i64 101)).set_ 1 (.slice none 0 0);have z0:=hF.at0;have z1:=hF.at1;go_wp2;exact bodyPost_ret (v:=.agg #[.int .i64 101,.slice none 0 0]) (by simp[results,Tryz.results39,go_sem,z0,z1]) rfl (HB.out w1 101 hw1 (by rw[Hm.out];rfl) (by rw[Hm.out]))
 ·have h1:decide (12<(p.classes.length:Int))=false:=by unfold manyP at hmany;simp;omega
  have h2:decide ((p.methods.length:Int)<1)=false:=by unfold manyP at hmany;simp;omega
  have h3:decide (12<(p.methods.length:Int))=false:=by unfold manyP at hmany;simp;omega
  have Hmany:=eh hmany;clear hmany;generalize RefFault w (mayP p)=Post at*;go_enter Tryz.func39,Tryz.ntmps39;go_wp2;have hP:=(Blk.new w 31 #[.slice Ac p.classes.length cc,.slice Am p.methods.length cm]).alloc (.cells #[.int .i64 0,.slice none 0 0] 108);have hR:=Blk.newAt (w:=w.alloc (.cells #[.slice Ac p.classes.length cc,.slice Am p.methods.length cm] 31)) (g:=w.heap.size+1) (by simp) 108 #[.int .i64 0,.slice none 0 0];have hw2:=((Below.refl w.heap.size w).alloc (Nat.le_refl _) (.cells #[.slice Ac p.classes.length cc,.slice Am p.methods.length cm] 31)).alloc (by simp) (.cells #[.int .i64 0,.slice none 0 0] 108);generalize(w.alloc (.cells #[.slice Ac p.classes.length cc,.slice Am p.methods.length cm] 31)).alloc (.cells #[.int .i64 0,.slice none 0 0] 108)=w2 at*;have p0:=hP.at0;have p1:=hP.at1;have hPl:=hP.lt;have hRl:=hR.lt;have hr2:=hr.below hw2 (Nat.le_refl _);clear h1 h2 h3;go_loop [3] (fun iv=>∃k:Nat,k≤p.classes.length∧iv=.int .i64 k∧Hid (∀j,j<k→clsBad p j=none)) (fun iv=>p.classes.length-(intOf iv).toNat)
  case atStart=>exact⟨0,Nat.zero_le _,rfl,eh (fun j hj=>by omega)⟩
  case round=>
   obtain⟨k,hk,rfl,Hno⟩:=hrel
   by_cases hlt:k<p.classes.length
   ·obtain⟨b,off,hA,hbb,c1⟩:=str_at hr2.cl hlt;have hfs:=hp.fs k hlt;have hcb:clsBad p k=some_ (if 10<(p.classes.getD k ⟨#[]⟩).size then 1 else if lettersB (p.classes.getD k ⟨#[]⟩)=false then 2 else 0) [(k:Int),-1]:=rfl;generalize p.classes.getD k ⟨#[]⟩=s at*;have k0:(0:Int)≤k:=by omega
    have k1:(k:Int)<p.classes.length:=by omega
    subst hA
    by_cases hs:10<s.size
    ·have hs1:decide (10<(s.size:Int))=true:=by simp;omega
     have Hcb:=eh (may_cls Hmany.out hlt Hno.out (show clsBad p k=some (1,[(k:Int),-1]) by rw[hcb,if_pos hs];rfl));clear hcb hs;go_wp2_with fail;refine(there_any _ _ _ _).mono ?_;rintro e w3 ⟨g,rfl,hg,hb3⟩;have hR3:=hR.below hb3 hRl;have hw3:=hw2.trans (hb3.mono hw2.size);have r0:=hR3.at0;have r1:=hR3.at1;have f0:=hR3.frozen 0;have f1:=hR3.frozen 1;have hl3:=hR3.lt;have hF:=(hR3.set_ 0 (.int .i64 101)).set_ 1 (.slice (some ⟨g,0,none⟩) 2 2);have z0:=hF.at0;have z1:=hF.at1;go_wp2;exact bodyPost_ret (v:=.agg #[.int .i64 101,.slice (some ⟨g,0,none⟩) 2 2]) (by simp[results,Tryz.results39,go_sem,z0,z1]) rfl (HT.out w3 g 101 k (-1) hR3 hg hw3 (by rw[Hcb.out];rfl) (by rw[Hcb.out]))
    ·have hs1:decide (10<(s.size:Int))=false:=by simp;omega
     have hl:=fun W=>rletters_any s W hfs
     cases hlet:lettersB s with
     |false=>
      have Hcb:=eh (may_cls Hmany.out hlt Hno.out (show clsBad p k=some (2,[(k:Int),-1]) by rw[hcb,if_neg hs,if_pos hlet];rfl));rw[hlet]at hl;have Hl:=eh hl;clear hcb hs hlet hl;go_wp2_with (go_at_call 71;refine(Hl.out _).mono ?_;rintro e w1 ⟨rfl,rfl⟩);refine(there_any _ _ _ _).mono ?_;rintro e w3 ⟨g,rfl,hg,hb3⟩;have hR3:=hR.below hb3 hRl;have hw3:=hw2.trans (hb3.mono hw2.size);have r0:=hR3.at0;have r1:=hR3.at1;have f0:=hR3.frozen 0;have f1:=hR3.frozen 1;have hl3:=hR3.lt;have hF:=(hR3.set_ 0 (.int .i64 102)).set_ 1 (.slice (some ⟨g,0,none⟩) 2 2);have z0:=hF.at0;have z1:=hF.at1;go_wp2;exact bodyPost_ret (v:=.agg #[.int .i64 102,.slice (some ⟨g,0,none⟩) 2 2]) (by simp[results,Tryz.results39,go_sem,z0,z1]) rfl (HT.out w3 g 102 k (-1) hR3 hg hw3 (by rw[Hcb.out];rfl) (by rw[Hcb.out]))
     |true=>
      have Hcb:=eh (show clsBad p k=none by rw[hcb,if_neg hs,if_neg (by simp[hlet])];rfl);rw[hlet]at hl;have Hl:=eh hl;clear hcb hs hlet hl;go_wp2_with (go_at_call 71;refine(Hl.out _).mono ?_;rintro e w1 ⟨rfl,rfl⟩);go_round
      case rel=>exact⟨k+1,by omega,by go_num,eh (next_none Hno.out Hcb.out)⟩
      case measure=>simp[intOf];omega
   ·have e:k=p.classes.length:=by omega
    have Hcls:=eh (fun j (hj:j<p.classes.length)=>Hno.out j (by omega));have hge:¬(k:Int)<p.classes.length:=by omega
    clear Hno e hlt hk;go_wp2;clear hge p0 p1;go_loopw [5] (fun iv wr=>∃i:Nat,i≤p.methods.length∧iv=.int .i64 i∧Hid (∀j,j<i→mthBad p j=none)∧Below w.heap.size w wr∧Blk wr w.heap.size 31 #[.slice Ac p.classes.length cc,.slice Am p.methods.length cm]∧Blk wr (w.heap.size+1) 108 #[.int .i64 0,.slice none 0 0]) (fun iv _=>p.methods.length-(intOf iv).toNat)
    case atStart=>exact⟨0,Nat.zero_le _,rfl,eh (fun j hj=>by omega),hw2,hP,hR⟩
    case round=>
     clear hw2 hP hR hPl hRl hr2;obtain⟨i,hi,rfl,Hno,hb,hP,hR⟩:=hrel;have hz:=hb.size;have p0:=hP.at0;have p1:=hP.at1;have hPl:=hP.lt;have hRl:=hR.lt
     by_cases hlt:i<p.methods.length
     ·obtain⟨b,off,Ai,ci,hA,hbb,m0,m1,m2,m3,hcode⟩:=mth_at (hr.ms.below hb (Nat.le_refl _)) hlt;have hmk:=hp.m i hlt;have Hhead:=eh (fun e=>mth_head (p:=p) (k:=i) (e:=e));have Hcode:=eh (fun pc f=>mth_code (p:=p) (k:=i) (pc:=pc) (f:=f));have Hok:=eh (mth_ok (p:=p) (k:=i));generalize p.methods.getD i default=m at*;have k0:(0:Int)≤i:=by omega
      have k1:(i:Int)<p.methods.length:=by omega
      subst hA;go_upto_region 15 with(fail);have hM:=Blk.new wr 27 #[.string m.pa,.string m.lo,.string m.re,.slice Ai m.code.length ci];have hP1:=hP.alloc (.cells #[.string m.pa,.string m.lo,.string m.re,.slice Ai m.code.length ci] 27);have hR1:=hR.alloc (.cells #[.string m.pa,.string m.lo,.string m.re,.slice Ai m.code.length ci] 27);have hb1:=hb.alloc hz (.cells #[.string m.pa,.string m.lo,.string m.re,.slice Ai m.code.length ci] 27);have hcd:=hcode.alloc hz (.cells #[.string m.pa,.string m.lo,.string m.re,.slice Ai m.code.length ci] 27);clear p0 p1 m0 m1 m2 m3 hcode hP hR hb;generalize wr.alloc (.cells #[.string m.pa,.string m.lo,.string m.re,.slice Ai m.code.length ci] 27)=w3 at*;generalize wr.heap.size=gm at*;have hmc:=hmk.code;have hmp:=hmk.pa;have hml:=hmk.lo;have y0:=hM.at0;have y1:=hM.at1;have y2:=hM.at2;have y3:=hM.at3;have hMl:=hM.lt;have hHB:uR m (decide (i=0))=if manyB m=true then 1 else if kindB m (decide (i=0))=true then 2 else 0:=by
       unfold uR manyB kindB;simp only[decide_eq_true_eq]
      have HHB:=eh hHB;clear hHB;go_cut [87]from 62 to 87 (fun v wx=>v=.bool (manyB m)∧w3=wx)
      case first=>
       by_cases hc0:m.code.length=0
       ·have g1:decide ((m.code.length:Int)<1)=true:=by simp only[decide_eq_true_eq];omega
        have Hm:=eh (show manyB m=true by unfold manyB;exact decide_eq_true (.inr (.inl hc0)));clear hc0;go_wp2
        all_goals
         go_meet;exact⟨by rw[Hm.out],rfl⟩
       ·have g1:decide ((m.code.length:Int)<1)=false:=by simp only[decide_eq_false_iff_not];omega
        have Hm:=eh (show manyB m=decide (12<m.pa.size+m.lo.size∨120<m.code.length) by unfold manyB;rw[decide_eq_decide];omega);clear hc0;go_wp2
        all_goals
         go_meet;refine⟨congrArg Value.bool ?_,rfl⟩;rw[Hm.out]
         first|(symm;rw[decide_eq_true_eq];omega)|(symm;rw[decide_eq_false_iff_not];omega)|(rw[Bool.eq_iff_iff];simp only[Bool.or_eq_true,decide_eq_true_eq];omega)
      case rest=>
       obtain⟨rfl,hwx⟩:=hcut;subst hwx;cases hmany:manyB m with
       |true=>
        rw[hmany]at HHB;have Hmb:=eh (may_mth Hmany.out Hcls.out hlt Hno.out (Hhead.out 0 (by rw[HHB.out];rfl)));clear hmany;go_wp2_with fail;refine(there_any _ _ _ _).mono ?_;rintro e w4 ⟨g,rfl,hg,hb4⟩;have hR4:=hR1.below hb4 hR1.lt;have hw4:=hb1.trans (hb4.mono hb1.size);have r0:=hR4.at0;have r1:=hR4.at1;have f0:=hR4.frozen 0;have f1:=hR4.frozen 1;have hl4:=hR4.lt;have hF:=(hR4.set_ 0 (.int .i64 (101))).set_ 1 (.slice (some ⟨g,0,none⟩) 2 2);have z0:=hF.at0;have z1:=hF.at1;go_wp2;exact bodyPost_ret (v:=.agg #[.int .i64 (101),.slice (some ⟨g,0,none⟩) 2 2]) (by simp[results,Tryz.results39,go_sem,z0,z1]) rfl (HT.out w4 g (101) i (-1) hR4 hg hw4 (by rw[Hmb.out];rfl) (by rw[Hmb.out]))
       |false=>
        rw[hmany]at HHB;clear hmany;go_upto_region 17 with(fail);go_cut [7]from 90 to 102 (fun v wx=>v=.bool (retOk m.re)∧w3=wx)
        case first=>
         go_wp2
         all_goals
          go_meet;refine⟨?_,rfl⟩;simp[retOk, *]
        case rest=>
         obtain⟨rfl,hwx⟩:=hcut;subst hwx;have Hl1:=eh (fun W=>rletters_any m.pa W hmk.pa);have Hl2:=eh (fun W=>rletters_any m.lo W hmk.lo);have Hk:=eh (show kindB m (decide (i=0))=(!lettersB m.pa|| !lettersB m.lo|| !retOk m.re||decide (i=0)&&(!m.pa.toList.isEmpty||m.re.toList==[82])) by rw[Bool.eq_iff_iff];simp[kindB,or_assoc]);have hi0:((i:Int)==0)=decide (i=0):=by rw[Bool.eq_iff_iff];simp
         go_upto_region 18 with(fail);generalize lettersB m.pa=la at*;generalize lettersB m.lo=ll at*;generalize retOk m.re=ro at*;generalize decide (i=0)=first at*
         go_cut [130]from 103 to 130 (fun v wx=>v=.bool (kindB m first)∧w3=wx)
         case first=>
          cases la<;>cases ll<;>cases ro<;>cases first
          all_goals
           go_wp2_with (first|(go_at_call 71;with_reducible refine(Hl1.out _).mono ?_;rintro e w1 ⟨rfl,rfl⟩)|(go_at_call 71;with_reducible refine(Hl2.out _).mono ?_;rintro e w1 ⟨rfl,rfl⟩))
           all_goals
            go_meet;refine⟨congrArg Value.bool ?_,rfl⟩;rw[Hk.out];simp[*]
         case rest=>
          obtain⟨rfl,hwx⟩:=hcut;subst hwx;cases hk:kindB m first with
          |true=>
           rw[hk]at HHB;have Hmb:=eh (may_mth Hmany.out Hcls.out hlt Hno.out (Hhead.out 1 (by rw[HHB.out];rfl)));clear hk;go_wp2_with fail;refine(there_any _ _ _ _).mono ?_;rintro e w4 ⟨g,rfl,hg,hb4⟩;have hR4:=hR1.below hb4 hR1.lt;have hw4:=hb1.trans (hb4.mono hb1.size);have r0:=hR4.at0;have r1:=hR4.at1;have f0:=hR4.frozen 0;have f1:=hR4.frozen 1;have hl4:=hR4.lt;have hF:=(hR4.set_ 0 (.int .i64 (102))).set_ 1 (.slice (some ⟨g,0,none⟩) 2 2);have z0:=hF.at0;have z1:=hF.at1;go_wp2;exact bodyPost_ret (v:=.agg #[.int .i64 (102),.slice (some ⟨g,0,none⟩) 2 2]) (by simp[results,Tryz.results39,go_sem,z0,z1]) rfl (HT.out w4 g (102) i (-1) hR4 hg hw4 (by rw[Hmb.out];rfl) (by rw[Hmb.out]))
          |false=>
           rw[hk]at HHB;have Hd0:=eh (show uR m first=0 by rw[HHB.out];rfl);have hsm:=head_small Hd0.out;clear hk HHB Hk Hl1 Hl2;go_wp2;clear y0 y1 y2 y3 hMl;go_loopw [8] (fun iv wr=>∃pc:Nat,pc≤m.code.length∧iv=.int .i64 pc∧Hid (∀j,j<pc→codeBad p m i j=none)∧Below w3.heap.size w3 wr) (fun iv _=>m.code.length-(intOf iv).toNat)
           case atStart=>exact⟨0,Nat.zero_le _,rfl,eh (fun j hj=>by omega),Below.refl _ _⟩
           case round=>
            obtain⟨pc,hpc,rfl,Hnc,hb3⟩:=hrel;have hb5:=hb1.trans (hb3.mono hb1.size);have hz5:=hb5.size;have hP5:=hP1.below hb3 hP1.lt;have hM5:=hM.below hb3 hM.lt;have hR5:=hR1.below hb3 hR1.lt;have p0:=hP5.at0;have p1:=hP5.at1;have y0:=hM5.at0;have y1:=hM5.at1;have y2:=hM5.at2;have y3:=hM5.at3;have hPl:=hP5.lt;have hMl:=hM5.lt
            by_cases hlt2:pc<m.code.length
            ·obtain⟨b2,off2,hA2,hbb2,x0,x1,x2,x3⟩:=ins_at ((hcd.more (Nat.le_trans (Nat.le_refl _) hb1.size)).below hb3 (Nat.le_refl _)) hlt2;have hcb:codeBad p m i pc=some_ (insBad p.classes p.methods.length (m.pa.size+m.lo.size) m.code.length (m.code.getD pc default)) [(i:Int),(pc:Int)]:=rfl;generalize m.code.getD pc default=x at*;subst hA2;have j0:(0:Int)≤pc:=by omega
             have j1:(pc:Int)<m.code.length:=by omega
             have hin:=fun W hr'=>rinstr_any Ac (some ⟨b,off,none⟩) cc cm p W hr' hp (some ⟨b2,off2,none⟩) ci m (by omega) hmk.code x
             have hrc:=((hr.cl.below hb5 (Nat.le_refl _)).more hz5).drew;rcases Nat.eq_zero_or_pos (insBad p.classes p.methods.length (m.pa.size+m.lo.size) m.code.length x)with hd0|hd0
             ·rw[hd0]at hin hcb;have hc0:codeOf 0=0:=rfl;rw[hc0]at hin;have Hin:=eh hin;have Hcb:=eh hcb;have Hrc:=eh hrc;clear hin hd0 hcb hc0 hrc hr;go_wp2_with fail;go_still_tail 7,(by kernel_rfl)
              change wpList _ _ _ _ _ wr.drew
              go_wp2_with fail;refine(Hin.out _ Hrc.out).mono ?_;rintro e w6 ⟨rfl,hb6⟩;go_wp2;go_roundw
              case rel=>exact⟨pc+1,by omega,by go_num,eh (next_none Hnc.out Hcb.out),hb3.drew.trans (hb6.mono hb3.size)⟩
              case measure=>simp[intOf];omega
             ·obtain⟨ee,hee⟩:∃ee,insBad p.classes p.methods.length (m.pa.size+m.lo.size) m.code.length x=ee+1:=⟨insBad p.classes p.methods.length (m.pa.size+m.lo.size) m.code.length x-1,by omega⟩;rw[hee]at hin hcb;have Hmb:=eh (may_mth Hmany.out Hcls.out hlt Hno.out (Hcode.out pc (ee+1,[(i:Int),(pc:Int)]) Hd0.out hlt2 Hnc.out hcb));obtain⟨c,hc⟩:∃c,codeOf (ee+1)=c:=⟨_,rfl⟩;have hcn:c≠0:=by rw[←hc];unfold codeOf;simp;omega
              have hcb2:(c != 0)=true:=by simpa using hcn
              rw[hc]at hin;have Hc:=eh hc;have Hin:=eh hin;have Hrc:=eh hrc;clear hin hd0 hcb hrc hr hcn hc hee;go_wp2_with fail;go_still_tail 7,(by kernel_rfl)
              change wpList _ _ _ _ _ wr.drew
              go_wp2_with fail;refine(Hin.out _ Hrc.out).mono ?_;rintro e w6 ⟨rfl,hb6⟩;have hR6:=hR5.drew.below hb6 hR5.lt;have hb56:=hb5.drew.trans (hb6.mono hz5);clear hR5 hb5;have hR5:=hR6;have hb5:=hb56;go_wp2_with fail;refine(there_any _ _ _ _).mono ?_;rintro e w4 ⟨g,rfl,hg,hb4⟩;have hR4:=hR5.below hb4 hR5.lt;have hw4:=hb5.trans (hb4.mono hb5.size);have r0:=hR4.at0;have r1:=hR4.at1;have f0:=hR4.frozen 0;have f1:=hR4.frozen 1;have hl4:=hR4.lt;have hF:=(hR4.set_ 0 (.int .i64 (c))).set_ 1 (.slice (some ⟨g,0,none⟩) 2 2);have z0:=hF.at0;have z1:=hF.at1;go_wp2;exact bodyPost_ret (v:=.agg #[.int .i64 (c),.slice (some ⟨g,0,none⟩) 2 2]) (by simp[results,Tryz.results39,go_sem,z0,z1]) rfl (HT.out w4 g (c) i (pc) hR4 hg hw4 (by rw[Hmb.out];exact Hc.out) (by rw[Hmb.out]))
            ·have hge:¬(pc:Int)<m.code.length:=by omega
             have Hmo:=eh (Hok.out Hd0.out (fun j hj=>Hnc.out j (by omega)));clear hlt2;go_wp2;go_roundw
             case rel=>exact⟨i+1,by omega,by go_num,eh (next_none Hno.out Hmo.out),hb5,hP5,hR5⟩
             case measure=>simp[intOf];omega
     ·have hge:¬(i:Int)<p.methods.length:=by omega
      have Hmy:=eh (may_ok Hmany.out Hcls.out (fun j hj=>Hno.out j (by omega)));clear hlt;go_wp2_with fail;refine(none_any _).mono ?_;rintro e w3 ⟨rfl,hb3⟩;have hR3:=hR.below hb3 hRl;have hw3:=hb.trans (hb3.mono hz);have r0:=hR3.at0;have r1:=hR3.at1;have f0:=hR3.frozen 0;have f1:=hR3.frozen 1;have hl3:=hR3.lt;have hF:=(hR3.set_ 0 (.int .i64 0)).set_ 1 (.slice none 0 0);have z0:=hF.at0;have z1:=hF.at1;go_wp2;exact bodyPost_ret (v:=.agg #[.int .i64 0,.slice none 0 0]) (by simp[results,Tryz.results39,go_sem,z0,z1]) rfl (HB.out w3 0 hw3 (by rw[Hmy.out];rfl) (by rw[Hmy.out]))
def riShape:Shape Vs where
 size:=3
 H:=(Option Addr×Nat)×(Option Addr×Nat)
 cell s h:=[.slice h.1.1 s.seen.length h.1.2,.slice h.2.1 s.stacks.length h.2.2,.int .i64 s.most]
 len _ _:=rfl
 inner S w s h:=RdS w S 1 h.1.1 s.seen.length (s.seen.map Value.bool)∧RdS w S 1 h.2.1 s.stacks.length (s.stacks.map Value.string)
 keep h hk:=⟨h.1.keep hk,h.2.keep hk⟩
 more h hs:=⟨h.1.more hs,h.2.more hs⟩
theorem infoRm:(Tryz.prog.info? 138).map (fun i=>(i.zero,i.size,i.bytes))=some (some (.agg #[.slice none 0 0,.slice none 0 0,.int .i64 0]),3,56):=by kernel_rfl
def EffSmall(f:Eff):Prop:=f.1.size≤1000∧f.2.1.size≤1000
theorem effSmall_ite{c:Prop}[Decidable c]{a b:Eff}(h1:EffSmall a)(h2:EffSmall b):EffSmall (if c then a else b):=by
 split<;>assumption
theorem effSmall_of{a b:ByteArray}{x:Bool}(h1:a.size≤1000)(h2:b.size≤1000):EffSmall (a,b,x):=⟨h1,h2⟩
theorem eff_le{p:Prg}{mine:Mth}{x:Ins}(hf:∀i:Int,(methodF p i).pa.size≤100∧(methodF p i).re.size≤100)(hm:mine.re.size≤100):(effF p mine x).1.size≤1000∧(effF p mine x).2.1.size≤1000:=by
 have h3:=hf x.a;have e1:sII.size=2:=rfl;have e2:sI.size=1:=rfl;have e3:sE.size=0:=rfl;have e4:sR.size=1:=rfl;have e5:sRR.size=2:=rfl;have e6:sRI.size=2:=rfl;have h4:=atB_le (mine.pa++mine.lo) x.a;have h5:=atB_le sIRs x.a;have h6:=fieldF_le p x.a x.b;show EffSmall (effF p mine x);unfold effF
 repeat' (first|refine effSmall_ite ?_ ?_|refine effSmall_of ?_ ?_)
 all_goals((try simp only[ByteArray.size_append])<;>omega)
theorem re_le{m:Mth}{b:Bool}(h:uR m b=0):m.re.size≤100:=by
 unfold uR at h;split at h
 ·cases h
 ·split at h
  ·cases h
  ·rename_i h1 h2;have h3:retOk m.re=true:=by
    cases hr:retOk m.re with
    |true=>rfl
    |false=>exact absurd (.inr (.inr (.inl hr))) h2
   unfold retOk at h3;simp only[Bool.or_eq_true,beq_iff_eq,List.isEmpty_iff]at h3;have hs:m.re.size=m.re.toList.length:=by rw[ByteArray.toList_eq];exact Array.length_toList.symm
   rcases h3 with(h3|h3)|h3<;>rw[hs,h3]<;>decide
theorem mf_le{p:Prg}(F:Fair p)(i:Int):(methodF p i).pa.size≤100∧(methodF p i).re.size≤100:=by
 unfold methodF;split
 ·rename_i h;have h1:i.toNat<p.methods.length:=by
   have:=h;simp[inB]at this;omega
  have h2:=F.head i.toNat h1;have h3:=(head_len h2).1;have h4:=re_le h2;exact⟨by omega,h4⟩
 ·decide
theorem may_zero{p:Prg}(h:(codeOf (mayP p).1:Int)=0):mayP p=(0,[]):=by
 have h0:(mayP p).1=0:=by
  unfold codeOf at h;split at h
  ·assumption
  ·omega
 have F:=fair_of h0;unfold mayP at h0⊢;have hm:=F.many;unfold manyP at hm;rw[if_neg hm]at h0⊢;cases h1:firstOf (clsBad p) p.classes.length with
 |some f=>
  rw[h1]at h0;obtain⟨j,hj⟩:=firstOf_ex h1;exact absurd (by simpa using h0) (cls_ne hj)
 |none=>
  rw[h1]at h0;cases h2:firstOf (mthBad p) p.methods.length with
  |some f=>
   rw[h2]at h0;obtain⟨j,hj⟩:=firstOf_ex h2;exact absurd (by simpa using h0) (mth_ne hj)
  |none=>rfl
theorem ver_inj{p:Prg}{vs ws:List Vs}(h1:Ver p vs)(h2:Ver p ws):vs=ws:=by
 apply List.ext_getElem
 ·rw[h1.len,h2.len]
 ·intro i a b;have e1:=h1.ver i (by rw[←h1.len];exact a);have e2:=h2.ver i (by rw[←h1.len];exact a);rw[e1]at e2;simpa[a,b]using e2
def RofOk(p:Prg)(B:Nat)(wr:World)(k n:Nat)(A:Option Addr)(c:Nat):Prop:=
 n=k∧mayP p=(0,[])∧∃(ws:List Vs) (hs:List ((Option Addr×Nat)×(Option Addr×Nat))),ws.length=k∧(∀j,j<k→verM p (p.methods.getD j default)=some (ws.getD j default))∧hs.length=k∧
  wr.ownsRow B 138 3 (.slice A k c) k (riShape.cells ws hs)∧∀(j:Nat) (s:Vs) (h:(Option Addr×Nat)×(Option Addr×Nat)),ws[j]? =some s→hs[j]? =some h→riShape.inner (fun b=>B≤b∧b<wr.heap.size∧(Value.slice A k c).ownBlock≠some b) wr s h
def RofPost(w:World)(Ac Am:Option Addr)(cc cm:Nat)(p:Prg)(e:Ending)(w':World):Prop:=
 ∃Al n cl co Af nf cf,e=.returned (.tuple #[.agg #[.slice Ac p.classes.length cc,.slice Am p.methods.length cm,.slice Al n cl],.agg #[.int .i64 co,.slice Af nf cf]])∧(co=0↔∃vs,Ver p vs)∧(∀vs,Ver p vs→n=vs.length∧RdL riShape w' (fun b=>w.heap.size≤b∧b<w'.heap.size) Al vs)∧Below w.heap.size w w'
theorem rof_any(Ac Am:Option Addr)(cc cm:Nat)(p:Prg)(w:World)(hr:RdP w w.heap.size Ac Am p)(hp:POk p):
 Calls Tryz.prog 20 #[pv Ac cc Am cm p] w (RofPost w Ac Am cc cm p):=by
 have HPP:∀Al n cl (co:Int) Af nf cf w',(co=0↔∃vs,Ver p vs)→(∀vs,Ver p vs→n=vs.length∧RdL riShape w' (fun b=>w.heap.size≤b∧b<w'.heap.size) Al vs)→Below w.heap.size w w'→RofPost w Ac Am cc cm p (.returned (.tuple #[.agg #[.slice Ac p.classes.length cc,.slice Am p.methods.length cm,.slice Al n cl],.agg #[.int .i64 co,.slice Af nf cf]])) w':=fun Al n cl co Af nf cf w' h1 h2 h3=>⟨Al,n,cl,co,Af,nf,cf,rfl,h1,h2,h3⟩
 have HP:=eh HPP;clear HPP;generalize RofPost w Ac Am cc cm p=Post at*;have HM:=eh (fun W (hW:Below w.heap.size w W)=>rmay_any W Ac Am cc cm p ((hr.below hW (Nat.le_refl _)).more hW.size) hp);have bP0:=Blk.new w 31 #[.slice Ac p.classes.length cc,.slice Am p.methods.length cm];have bP1:=bP0.alloc (.cells #[.slice none 0 0,.slice none 0 0,.slice none 0 0] 35);have bP2:=bP1.alloc (.cells #[.int .i64 0,.slice none 0 0] 108);have p0:=bP2.at0;have p1:=bP2.at1;have lP:=bP2.lt;go_enter Tryz.func20,Tryz.ntmps20;go_wp2_with fail;have hb2:=(((Below.refl w.heap.size w).alloc (Nat.le_refl _) (.cells #[.slice Ac p.classes.length cc,.slice Am p.methods.length cm] 31)).alloc (by simp) (.cells #[.slice none 0 0,.slice none 0 0,.slice none 0 0] 35)).alloc (by simp;omega) (.cells #[.int .i64 0,.slice none 0 0] 108);have bI2:=(Blk.newAt (w:=w.alloc (.cells #[.slice Ac p.classes.length cc,.slice Am p.methods.length cm] 31)) (g:=w.heap.size+1) (by simp) 35 #[.slice none 0 0,.slice none 0 0,.slice none 0 0]).alloc (.cells #[.int .i64 0,.slice none 0 0] 108);have bF2:=Blk.newAt (w:=(w.alloc (.cells #[.slice Ac p.classes.length cc,.slice Am p.methods.length cm] 31)).alloc (.cells #[.slice none 0 0,.slice none 0 0,.slice none 0 0] 35)) (g:=w.heap.size+1+1) (by simp) 108 #[.int .i64 0,.slice none 0 0];refine(HM.out _ hb2).mono ?_;rintro e w1 ⟨Af0,nf0,cf0,rfl,-,-,hb12⟩;have bP3:=bP2.below hb12 bP2.lt;have bI3:=bI2.below hb12 bI2.lt;have bF3:=bF2.below hb12 bF2.lt;have hb3:=hb2.trans (hb12.mono hb2.size);clear bP0 bP1 bP2 bI2 bF2 p0 p1 lP hb2 hb12;have p0:=bP3.at0;have p1:=bP3.at1;have lP:=bP3.lt;go_upto_region 4 with(fail);have HMt:=eh (fun W (hW:Below w.heap.size w W) k (hk:k<p.methods.length) (h0:mayP p=(0,[]))=>(show Calls Tryz.prog 40 #[pv Ac cc Am cm p,.int .i64 k] W (RmetPost W (p.methods.getD k default).code.length (verM p (p.methods.getD k default)))from by
  have F:=fair_of (p:=p) (by rw[h0]);have hl:=head_len (F.head k hk);exact rmet_any Ac Am cc cm p k _ W ((hr.below hW (Nat.le_refl _)).more hW.size) hp hk rfl (by omega) hl.2.1 (by omega) (fun j hj=>F.ins k hk j hj) (F.next hk) (fun j hj=>eff_le (mf_le F) (re_le (F.head k hk)))))
 have Hco:Hid ((codeOf (mayP p).1:Int)≠0→∀vs,¬Ver p vs):=eh (fun h vs hv=>h (by rw[hv.fair];rfl));have Hok:Hid ((codeOf (mayP p).1:Int)=0→mayP p=(0,[])):=eh (fun h=>may_zero h);obtain⟨gf,hgf⟩:∃gf,gf=w1.heap.size:=⟨_,rfl⟩;rw[←hgf];have bFa:=Blk.newAt (w:=w1) (g:=gf) hgf.symm 108 #[.int .i64 (codeOf (mayP p).1),.slice Af0 nf0 cf0];have hba:=hb3.alloc hb3.size (.cells #[.int .i64 (codeOf (mayP p).1),.slice Af0 nf0 cf0] 108);have bPa:=bP3.alloc (.cells #[.int .i64 (codeOf (mayP p).1),.slice Af0 nf0 cf0] 108);have bIa:=bI3.alloc (.cells #[.int .i64 (codeOf (mayP p).1),.slice Af0 nf0 cf0] 108);have bRa:=bF3.alloc (.cells #[.int .i64 (codeOf (mayP p).1),.slice Af0 nf0 cf0] 108);have hgs:(w1.alloc (.cells #[.int .i64 (codeOf (mayP p).1),.slice Af0 nf0 cf0] 108)).heap.size=gf+1:=by simp[hgf]
 have hwg:w.heap.size+3≤gf:=by have:=bF3.lt;omega
 clear hgf bP3 bI3 bF3 hb3 p0 p1 lP;generalize w1.alloc (.cells #[.int .i64 (codeOf (mayP p).1),.slice Af0 nf0 cf0] 108)=wa at*;have bGb:=Blk.newAt (w:=wa) (g:=gf+1) hgs 35 #[.slice Ac p.classes.length cc,.slice Am p.methods.length cm,.slice none 0 0];have hbb:=hba.alloc hba.size (.cells #[.slice Ac p.classes.length cc,.slice Am p.methods.length cm,.slice none 0 0] 35);have bPb:=bPa.alloc (.cells #[.slice Ac p.classes.length cc,.slice Am p.methods.length cm,.slice none 0 0] 35);have bIb:=bIa.alloc (.cells #[.slice Ac p.classes.length cc,.slice Am p.methods.length cm,.slice none 0 0] 35);have bRb:=bRa.alloc (.cells #[.slice Ac p.classes.length cc,.slice Am p.methods.length cm,.slice none 0 0] 35);have bFb:=bFa.alloc (.cells #[.slice Ac p.classes.length cc,.slice Am p.methods.length cm,.slice none 0 0] 35);clear bPa bIa bRa bFa hba hgs;generalize wa.alloc (.cells #[.slice Ac p.classes.length cc,.slice Am p.methods.length cm,.slice none 0 0] 35)=wb at*;generalize codeOf (mayP p).1=co0 at*;go_loopw [6] (fun iv wr=>∃(k n c:Nat) (A:Option Addr) (co:Int) (Af:Option Addr) (nf cf:Nat),k≤p.methods.length∧iv=.int .i64 k∧Blk wr gf 108 #[.int .i64 co,.slice Af nf cf]∧Blk wr (gf+1) 35 #[.slice Ac p.classes.length cc,.slice Am p.methods.length cm,.slice A n c]∧Hid (co≠0→∀vs,¬Ver p vs)∧Hid (co=0→RofOk p (gf+2) wr k n A c)∧Hid (KB (fun b=>b<gf) wb wr)∧Below w.heap.size w wr) (fun iv _=>p.methods.length-(intOf iv).toNat)
 case atStart=>exact⟨0,0,0,none,co0,Af0,nf0,cf0,Nat.zero_le _,rfl,bFb,bGb,Hco,eh (fun h=>⟨rfl,Hok.out h,[],[],rfl,fun j hj=>by omega,rfl,World.ownsRow_nil _ _ _ _,fun j s h e=>by simp at e⟩),eh (KB.refl _ _),hbb⟩
 case round=>
  clear bFb bGb hbb Hco Hok;obtain⟨k,n,c,A,co,Af,nf,cf,hk,rfl,bF,bG,Hbad,Hok,K,hb⟩:=hrel;have bP:=bPb.kb K.out (by omega);have bI:=bIb.kb K.out (by omega);have bR:=bRb.kb K.out (by omega);have p0:=bP.at0;have p1:=bP.at1;have lP:=bP.lt;have f0:=bF.at0;have f1:=bF.at1;have lF:=bF.lt;go_upto_region 4 with(fail);go_cut [22]from 13 to 23 (fun v wx=>v=.bool (decide (k<p.methods.length∧co=0))∧wr=wx)
  case first=>
   by_cases hlt:k<p.methods.length
   ·have k0:(k:Int)<p.methods.length:=by omega
    by_cases hc:co=0
    ·have g1:(co==0)=true:=by simpa using hc
     have Hd:=eh (show decide (k<p.methods.length∧co=0)=true by simp[hlt,hc]);clear hc;go_wp2;go_meet;exact⟨by rw[Hd.out],rfl⟩
    ·have g1:(co==0)=false:=by simpa using hc
     have Hd:=eh (show decide (k<p.methods.length∧co=0)=false by simp[hc]);clear hc;go_wp2;go_meet;exact⟨by rw[Hd.out],rfl⟩
   ·have k0:¬(k:Int)<p.methods.length:=by omega
    have Hd:=eh (show decide (k<p.methods.length∧co=0)=false by simp[hlt]);go_wp2;go_meet;exact⟨by rw[Hd.out],rfl⟩
  case rest=>
   obtain⟨rfl,hwx⟩:=hcut;subst hwx;cases hd:decide (k<p.methods.length∧co=0)with
   |true=>
    obtain⟨hlt,hc0⟩:=of_decide_eq_true hd;have hok:=Hok.out hc0;clear hd Hok Hbad hc0;obtain⟨hn,h0,ws,hs,hwl,hwv,hhl,own,hin⟩:=hok;subst hn;have H0:=eh h0;have Hwl:=eh hwl;have Hwv:=eh hwv;have Hhl:=eh hhl;have Hin:=eh hin;have Olt:=eh own.lt;have n0:(0:Int)≤n:=by omega
    clear h0 hwl hwv hhl hin;go_wp2_with fail;refine(HMt.out _ hb n hlt H0.out).mono ?_;rintro e w2 ⟨gs,ge,mo,co2,Af2,nf2,cf2,rfl,hco2,hsome,hgs,hge,hbm⟩;have Hco2:=eh hco2;have Hsome:=eh hsome;generalize hmm:p.methods.getD n default=mm at*;have Hmm:=eh hmm;have bP2:=bP.below hbm bP.lt;have bI2:=bI.below hbm bI.lt;have bR2:=bR.below hbm bR.lt;have bF2:=bF.below hbm bF.lt;have bG2:=bG.below hbm bG.lt;have own2:=own_below own hbm (Nat.le_refl _);have hb2:=hb.trans (hbm.mono hb.size);have K2:=eh (K.out.below hbm (fun b h=>by have:=bF.lt;omega));have Kin2:=eh (KB.of_below (S:=fun b=>gf+2≤b∧b<wr.heap.size∧(Value.slice A n c).ownBlock≠some b) hbm (fun b h=>h.2.1));have hzr:=eh hbm.size;have Hgr:=eh bG.lt;clear bP bI bR bF bG own hb K p0 p1 lP f0 f1 lF hmm hco2 hsome hbm;go_upto_region 7 with(fail);obtain⟨gm,hgm⟩:∃gm,gm=w2.heap.size:=⟨_,rfl⟩;rw[←hgm];have bM3:=(Blk.newAt (w:=w2) (g:=gm) hgm.symm 138 #[.slice (some ⟨ge,0,none⟩) mm.code.length mm.code.length,.slice (some ⟨gs,0,none⟩) mm.code.length mm.code.length,.int .i64 mo]).alloc (.cells #[.int .i64 co2,.slice Af2 nf2 cf2] 108);have bN3:=Blk.newAt (w:=w2.alloc (.cells #[.slice (some ⟨ge,0,none⟩) mm.code.length mm.code.length,.slice (some ⟨gs,0,none⟩) mm.code.length mm.code.length,.int .i64 mo] 138)) (g:=gm+1) (by simp[hgm]) 108 #[.int .i64 co2,.slice Af2 nf2 cf2];have bF3:=(bF2.alloc (.cells #[.slice (some ⟨ge,0,none⟩) mm.code.length mm.code.length,.slice (some ⟨gs,0,none⟩) mm.code.length mm.code.length,.int .i64 mo] 138)).alloc (.cells #[.int .i64 co2,.slice Af2 nf2 cf2] 108);have bG3:=(bG2.alloc (.cells #[.slice (some ⟨ge,0,none⟩) mm.code.length mm.code.length,.slice (some ⟨gs,0,none⟩) mm.code.length mm.code.length,.int .i64 mo] 138)).alloc (.cells #[.int .i64 co2,.slice Af2 nf2 cf2] 108);have own3:=(own2.alloc (.cells #[.slice (some ⟨ge,0,none⟩) mm.code.length mm.code.length,.slice (some ⟨gs,0,none⟩) mm.code.length mm.code.length,.int .i64 mo] 138)).alloc (.cells #[.int .i64 co2,.slice Af2 nf2 cf2] 108);have hb3:=(hb2.alloc hb2.size (.cells #[.slice (some ⟨ge,0,none⟩) mm.code.length mm.code.length,.slice (some ⟨gs,0,none⟩) mm.code.length mm.code.length,.int .i64 mo] 138)).alloc (by simp;have:=hb2.size;omega) (.cells #[.int .i64 co2,.slice Af2 nf2 cf2] 108);have hgl:gf+1<gm:=by have:=bG2.lt;omega
    have K3:=eh ((K2.out.alloc (fun b h=>by omega) (.cells #[.slice (some ⟨ge,0,none⟩) mm.code.length mm.code.length,.slice (some ⟨gs,0,none⟩) mm.code.length mm.code.length,.int .i64 mo] 138)).alloc (fun b h=>by simp;omega) (.cells #[.int .i64 co2,.slice Af2 nf2 cf2] 108));have Kin3:=eh (((KB.refl (fun b=>b<gm∧b≠gf∧b≠gf+1∧(Value.slice A n c).ownBlock≠some b) w2).alloc (fun b h=>by omega) (.cells #[.slice (some ⟨ge,0,none⟩) mm.code.length mm.code.length,.slice (some ⟨gs,0,none⟩) mm.code.length mm.code.length,.int .i64 mo] 138)).alloc (fun b h=>by simp;omega) (.cells #[.int .i64 co2,.slice Af2 nf2 cf2] 108));have Hz3:=eh (show((w2.alloc (.cells #[.slice (some ⟨ge,0,none⟩) mm.code.length mm.code.length,.slice (some ⟨gs,0,none⟩) mm.code.length mm.code.length,.int .i64 mo] 138)).alloc (.cells #[.int .i64 co2,.slice Af2 nf2 cf2] 108)).heap.size=gm+2 by simp[hgm]);have Hgm:=eh hgm;clear bF2 bG2 own2 hb2 K2 hgm bP2 bI2 bR2;generalize(w2.alloc (.cells #[.slice (some ⟨ge,0,none⟩) mm.code.length mm.code.length,.slice (some ⟨gs,0,none⟩) mm.code.length mm.code.length,.int .i64 mo] 138)).alloc (.cells #[.int .i64 co2,.slice Af2 nf2 cf2] 108)=w3 at*;have x0:=bN3.at0;have x1:=bN3.at1;have lN:=bN3.lt;have f0:=bF3.at0;have f1:=bF3.at1;have ff0:=bF3.frozen 0;have ff1:=bF3.frozen 1;have lF:=bF3.lt;go_upto_region 8 with(fail);have bM4:=(bM3.far (p:=⟨gf,0,none⟩) (by show gm≠gf;omega) (.int .i64 co2)).far (p:=⟨gf,1,none⟩) (by show gm≠gf;omega) (.slice Af2 nf2 cf2);have bG4:=(bG3.far (p:=⟨gf,0,none⟩) (by show gf+1≠gf;omega) (.int .i64 co2)).far (p:=⟨gf,1,none⟩) (by show gf+1≠gf;omega) (.slice Af2 nf2 cf2);have bF4:=(bF3.set_ 0 (.int .i64 co2)).set_ 1 (.slice Af2 nf2 cf2);have own4:=uS (uS own3 (uA w3 ⟨gf,0,none⟩ (.int .i64 co2)) (.inl (uF (g:=gf) (by omega) own3))) (uA (w3.setCell ⟨gf,0,none⟩ (.int .i64 co2)) ⟨gf,1,none⟩ (.slice Af2 nf2 cf2)) (.inl (uF (g:=gf) (by omega) own3));have hb4:=(hb3.setCell (p:=⟨gf,0,none⟩) (by show w.heap.size≤gf;omega) (.int .i64 co2)).setCell (p:=⟨gf,1,none⟩) (by show w.heap.size≤gf;omega) (.slice Af2 nf2 cf2);have K4:=eh ((K3.out.set (p:=⟨gf,0,none⟩) (by show¬gf<gf;omega) (.int .i64 co2)).set (p:=⟨gf,1,none⟩) (by show¬gf<gf;omega) (.slice Af2 nf2 cf2));have Kin4:=eh ((Kin3.out.set (p:=⟨gf,0,none⟩) (fun h=>h.2.1 rfl) (.int .i64 co2)).set (p:=⟨gf,1,none⟩) (fun h=>h.2.1 rfl) (.slice Af2 nf2 cf2));have Hz4:=eh (show((w3.setCell ⟨gf,0,none⟩ (.int .i64 co2)).setCell ⟨gf,1,none⟩ (.slice Af2 nf2 cf2)).heap.size=gm+2 by simp[Hz3.out]);clear bM3 bN3 bF3 bG3 own3 hb3 K3 Kin3 x0 x1 lN f0 f1 ff0 ff1 lF Hz3;generalize(w3.setCell ⟨gf,0,none⟩ (.int .i64 co2)).setCell ⟨gf,1,none⟩ (.slice Af2 nf2 cf2)=w4 at*;simp only[List.setIfInBounds_toArray,List.set_cons_zero,List.set_cons_succ]at bF4;have y0:=bM4.at0;have y1:=bM4.at1;have y2:=bM4.at2;have lM:=bM4.lt;have g2:=bG4.at2;have lG:=bG4.lt;have hn12:n<1000:=by
     have F:=fair_of (p:=p) (by rw[H0.out]);have:=F.many;unfold manyP at this;omega
    have Hn12:=eh hn12;go_wp2_with (at_builtin
                                    refine wpList_append_row rfl (.tmp 33) (.tmp 35) 33 rfl (gf+2) 138 _ 3 56 Tryz.underlying33 infoRm rfl (by omega) A c n (riShape.cells ws hs) rfl (own4.alloc _) w4.heap.size 1 1 138 [.slice (some ⟨ge,0,none⟩) mm.code.length mm.code.length,.slice (some ⟨gs,0,none⟩) mm.code.length mm.code.length,.int .i64 mo] rfl (Blk.new _ _ _) rfl (by intro u hu;simp at hu;rcases hu with rfl|rfl|rfl<;>rfl) (by have:=Hn12.out;unfold maxLen;omega) (by have:=Hn12.out;omega) (by simp;have:=Hz4.out;omega) ?_;intro A3 c3 w5 own5 hg5 hat5;have bG5:=(bG4.alloc _).grown hg5 (fun e=>uF (g:=gf+1) (by omega) own4 e.symm);have z0:=bG5.at0;have z1:=bG5.at1;have z2:=bG5.at2;have fz2:=bG5.frozen 2)
    have own4a:=own4.alloc (.cells #[.slice (some ⟨ge,0,none⟩) mm.code.length mm.code.length,.slice (some ⟨gs,0,none⟩) mm.code.length mm.code.length,.int .i64 mo] 138);have hne:∀b,(b<gf+2∨wr.heap.size≤b)→(Value.slice A n c).ownBlock≠some b:=fun b hb e=>by
     have:=Olt.out b e;omega
    have hzr':=hzr.out;have hgm':=Hgm.out;have hz4':=Hz4.out;have Hfn:=eh (show∀k,k<mm.code.length→∀i∈nextF mm k,0≤i from by
     have F:=fair_of (p:=p) (by rw[H0.out]);have:=F.next hlt
     rwa [Hmm.out]at this)
    have Hl0:=eh (show 0<mm.code.length from by
     have F:=fair_of (p:=p) (by rw[H0.out]);have:=(head_len (F.head n hlt)).2.1
     rwa [Hmm.out]at this)
    have bFz:=((bF4.alloc (.cells #[.slice (some ⟨ge,0,none⟩) mm.code.length mm.code.length,.slice (some ⟨gs,0,none⟩) mm.code.length mm.code.length,.int .i64 mo] 138)).grown hg5 (fun e=>uF (g:=gf) (by omega) own4 e.symm)).far (p:=⟨gf+1,2,none⟩) (by show gf≠gf+1;omega) (.slice A3 (n+1) c3);have bGz:=bG5.set_ 2 (.slice A3 (n+1) c3);simp only[List.setIfInBounds_toArray,List.set_cons_zero,List.set_cons_succ]at bGz;have ownz:=uS own5 (uA w5 ⟨gf+1,2,none⟩ (.slice A3 (n+1) c3)) (.inl (uF (g:=gf+1) (by omega) own5));have hbz:=((hb4.alloc hb4.size (.cells #[.slice (some ⟨ge,0,none⟩) mm.code.length mm.code.length,.slice (some ⟨gs,0,none⟩) mm.code.length mm.code.length,.int .i64 mo] 138)).grown hg5 (by simp;have:=hb4.size;omega) (fun k hk=>by have:=(own4a.lt k hk).1;omega)).setCell (p:=⟨gf+1,2,none⟩) (by show w.heap.size≤gf+1;omega) (.slice A3 (n+1) c3);have Kz:=eh (((K4.out.alloc (fun b h=>by omega) (.cells #[.slice (some ⟨ge,0,none⟩) mm.code.length mm.code.length,.slice (some ⟨gs,0,none⟩) mm.code.length mm.code.length,.int .i64 mo] 138)).grown hg5 (fun b h=>by simp;omega) (fun b h e=>hne b (.inl (by omega)) e.symm)).set (p:=⟨gf+1,2,none⟩) (by show¬gf+1<gf;omega) (.slice A3 (n+1) c3));have Kinz:=eh (((Kin4.out.alloc (fun b h=>by omega) (.cells #[.slice (some ⟨ge,0,none⟩) mm.code.length mm.code.length,.slice (some ⟨gs,0,none⟩) mm.code.length mm.code.length,.int .i64 mo] 138)).grown hg5 (fun b h=>by simp;omega) (fun b h e=>h.2.2.2 e.symm)).set (p:=⟨gf+1,2,none⟩) (fun h=>h.2.2.1 rfl) (.slice A3 (n+1) c3));have Hszz:=eh (show gm+3≤(w5.setCell ⟨gf+1,2,none⟩ (.slice A3 (n+1) c3)).heap.size by
     have:=hg5.size;simp at this⊢;omega)
    have Hat:=eh (show(Value.slice A3 (n+1) c3).ownBlock=(Value.slice A n c).ownBlock∨(Value.slice A3 (n+1) c3).ownBlock=some (gm+3) by
     rcases hat5 with h|h
     ·exact .inl h
     ·refine .inr (h.trans (congrArg some ?_));simp;omega)
    clear hat5 hg5 own5 bG5 z0 z1 z2 fz2 y0 y1 y2 g2 bM4 bG4 bF4 own4 own4a hb4 K4 Kin4;generalize w5.setCell ⟨gf+1,2,none⟩ (.slice A3 (n+1) c3)=wz at*;go_roundw
    case rel=>
     refine⟨n+1,n+1,c3,A3,co2,Af2,nf2,cf2,by omega,by go_num,bFz,bGz,eh (fun h vs hv=>?_),eh (fun h=>?_),Kz,hbz⟩
     ·have h1:=hv.ver n hlt;rw[Hmm.out]at h1;exact h (Hco2.out.1 (by rw[h1];rfl))
     ·obtain⟨s,hs1⟩:=Option.isSome_iff_exists.1 (Hco2.out.2 h);obtain⟨hmo,bS,bE⟩:=Hsome.out s hs1;subst hmo;have hvok:VOk p mm s:=verM_ok Hfn.out Hl0.out hs1;have hcs:=cells_snoc riShape (l:=ws) (hs:=hs) (by exact Hhl.out.trans Hwl.out.symm) s ((some ⟨ge,0,none⟩,mm.code.length),(some ⟨gs,0,none⟩,mm.code.length));have hcell:riShape.cell s ((some ⟨ge,0,none⟩,mm.code.length),(some ⟨gs,0,none⟩,mm.code.length))=[.slice (some ⟨ge,0,none⟩) mm.code.length mm.code.length,.slice (some ⟨gs,0,none⟩) mm.code.length mm.code.length,.int .i64 s.most]:=by
       simp only[riShape,hvok.l1,hvok.l2]
      rw[hcell]at hcs;have hgsl:=bS.lt;have hgel:=bE.lt;have hg1:=hgs;have hg2:=hge;have hszz:=Hszz.out;have hgr:=Hgr.out;have hnE:∀b,b≠gf→b≠gf+1→(wr.heap.size≤b)→b<gm→(b<gm∧b≠gf∧b≠gf+1∧(Value.slice A n c).ownBlock≠some b):=fun b h1 h2 h3 h4=>⟨h4,h1,h2,hne b (.inr h3)⟩
      have bSz:=bS.kb Kinz.out (hnE gs (by omega) (by omega) (by omega) (by omega));have bEz:=bE.kb Kinz.out (hnE ge (by omega) (by omega) (by omega) (by omega));have hown9:∀b,(Value.slice A3 (n+1) c3).ownBlock=some b→b<wr.heap.size∨b=gm+3:=fun b e=>by
       rcases Hat.out with h9|h9
       ·exact .inl (Olt.out b (by rw[←h9];exact e)).2
       ·rw[h9]at e;exact .inr (Option.some.inj e).symm
      refine⟨rfl,H0.out,ws++[s],hs++[((some ⟨ge,0,none⟩,mm.code.length),(some ⟨gs,0,none⟩,mm.code.length))],by simp[Hwl.out],fun j hj=>?_,by simp[Hhl.out],?_,fun j s' h' e1 e2=>?_⟩
      ·by_cases hjn:j<n
       ·have:=Hwv.out j hjn;rw[this];have hl:=Hwl.out;simp[List.getD_eq_getElem?_getD,List.getElem?_append_left (show j<ws.length by omega)]
       ·have ej:j=n:=by omega
        subst ej;have hl:=Hwl.out;rw[Hmm.out,hs1,List.getD_eq_getElem?_getD,List.getElem?_append_right (by omega),hl];simp
      ·exact(congrArg (fun xs=>World.ownsRow wz (gf+2) 138 3 (.slice A3 (n+1) c3) (n+1) xs) hcs).mpr ownz
      ·have hl:=Hwl.out;have hl2:=Hhl.out
       by_cases hj:j<n
       ·rw[List.getElem?_append_left (by omega)]at e1;rw[List.getElem?_append_left (by omega)]at e2;refine riShape.more (riShape.keep (riShape.keep (Hin.out j s' h' e1 e2) Kin2.out.kept) (Kinz.out.kept.sub (fun b h=>⟨by omega,by omega,by omega,h.2.2⟩))) (fun b hb=>⟨hb.1,by omega,fun e=>?_⟩);rcases Hat.out with h9|h9
        ·exact hb.2.2 (by rw[←h9];exact e)
        ·rw[h9]at e;have:=Option.some.inj e;omega
       ·have hjk:j=n:=by
         have:=(List.getElem?_eq_some_iff.1 e1).1;simp at this;omega
        subst hjk;rw[List.getElem?_append_right (by omega),hl]at e1;rw[List.getElem?_append_right (by omega),hl2]at e2;simp at e1 e2;subst e1 e2;refine⟨blk_rds bEz (by simp) ⟨by omega,by omega,fun e=>?_⟩,blk_rds bSz (by simp) ⟨by omega,by omega,fun e=>?_⟩⟩
        ·rcases hown9 _ e with h|h<;>omega
        ·rcases hown9 _ e with h|h<;>omega
    case measure=>simp[intOf];omega
   |false=>
    have Hn:=eh (of_decide_eq_false hd);clear hd;go_upto_region 9 with(fail);refine uE (S:=fun W=>Blk W gf 108 #[.int .i64 co,.slice Af nf cf]∧Blk W (gf+1) 35 #[.slice Ac p.classes.length cc,.slice Am p.methods.length cm,.slice A n c]) (fun q=>decide (q≤2)) (by kernel_rfl) ⟨bF,bG⟩ (fun HS=>?_);refine uB 0 38 rfl HS (.inl ⟨rfl,fun W hW=>by have h0:=hW.2.at0;have h1:=hW.2.at1;have h2:=hW.2.at2;go_simp;rfl⟩) ?_;simp only[pS];refine uB 1 39 rfl HS (.inl ⟨rfl,fun W hW=>by have h0:=hW.1.at0;have h1:=hW.1.at1;go_simp;rfl⟩) ?_;simp only[pS];have Hbad':=Hbad;have HokF:=Hok;have i0:=bI.at0;have i1:=bI.at1;have i2:=bI.at2;have fi0:=bI.frozen 0;have fi1:=bI.frozen 1;have fi2:=bI.frozen 2;have lI:=bI.lt;refine uN 2 rfl (fun K' HK=>?_);clear HS;go_simp;have qi:=fun(g:Nat) (T:TypeId) (cs:Array Value) (B:Blk wr g T cs) (hg:g≠w.heap.size+1)=>((B.far (p:=⟨w.heap.size+1,0,none⟩) hg (.slice Ac p.classes.length cc)).far (p:=⟨w.heap.size+1,1,none⟩) hg (.slice Am p.methods.length cm)).far (p:=⟨w.heap.size+1,2,none⟩) hg (.slice A n c)
    have bF2:=qi _ _ _ bF (by omega);have bG2:=qi _ _ _ bG (by omega);have bR2:=qi _ _ _ bR (by omega);have bI2:=((bI.set_ 0 (.slice Ac p.classes.length cc)).set_ 1 (.slice Am p.methods.length cm)).set_ 2 (.slice A n c);have hb2:=((hb.setCell (p:=⟨w.heap.size+1,0,none⟩) (by show w.heap.size≤w.heap.size+1;omega) (.slice Ac p.classes.length cc)).setCell (p:=⟨w.heap.size+1,1,none⟩) (by show w.heap.size≤w.heap.size+1;omega) (.slice Am p.methods.length cm)).setCell (p:=⟨w.heap.size+1,2,none⟩) (by show w.heap.size≤w.heap.size+1;omega) (.slice A n c);have K2:=eh ((((KB.refl (fun b=>gf+2≤b) wr).set (p:=⟨w.heap.size+1,0,none⟩) (by show¬gf+2≤w.heap.size+1;omega) (.slice Ac p.classes.length cc)).set (p:=⟨w.heap.size+1,1,none⟩) (by show¬gf+2≤w.heap.size+1;omega) (.slice Am p.methods.length cm)).set (p:=⟨w.heap.size+1,2,none⟩) (by show¬gf+2≤w.heap.size+1;omega) (.slice A n c));have Z2:=eh (show(((wr.setCell ⟨w.heap.size+1,0,none⟩ (.slice Ac p.classes.length cc)).setCell ⟨w.heap.size+1,1,none⟩ (.slice Am p.methods.length cm)).setCell ⟨w.heap.size+1,2,none⟩ (.slice A n c)).heap.size=wr.heap.size by simp);refine HK.out _ _ (fun _=>⟨bF2,bG2⟩) ?_;clear HK qi i0 i1 i2 fi0 fi1 fi2 lI f0 f1 lF p0 p1 lP bF bG bR bI bP hb K;generalize((wr.setCell ⟨w.heap.size+1,0,none⟩ (.slice Ac p.classes.length cc)).setCell ⟨w.heap.size+1,1,none⟩ (.slice Am p.methods.length cm)).setCell ⟨w.heap.size+1,2,none⟩ (.slice A n c)=w3 at*;have r0:=bR2.at0;have r1:=bR2.at1;have fr0:=bR2.frozen 0;have fr1:=bR2.frozen 1;have lR:=bR2.lt;refine uN 3 rfl (fun K' HK=>?_);go_simp;have bI3:=(bI2.far (p:=⟨w.heap.size+1+1,0,none⟩) (by show w.heap.size+1≠w.heap.size+1+1;omega) (.int .i64 co)).far (p:=⟨w.heap.size+1+1,1,none⟩) (by show w.heap.size+1≠w.heap.size+1+1;omega) (.slice Af nf cf);have bR3:=(bR2.set_ 0 (.int .i64 co)).set_ 1 (.slice Af nf cf);have hb3:=(hb2.setCell (p:=⟨w.heap.size+1+1,0,none⟩) (by show w.heap.size≤w.heap.size+1+1;omega) (.int .i64 co)).setCell (p:=⟨w.heap.size+1+1,1,none⟩) (by show w.heap.size≤w.heap.size+1+1;omega) (.slice Af nf cf);have K3:=eh ((K2.out.set (p:=⟨w.heap.size+1+1,0,none⟩) (by show¬gf+2≤w.heap.size+1+1;omega) (.int .i64 co)).set (p:=⟨w.heap.size+1+1,1,none⟩) (by show¬gf+2≤w.heap.size+1+1;omega) (.slice Af nf cf));have Z3:=eh (show((w3.setCell ⟨w.heap.size+1+1,0,none⟩ (.int .i64 co)).setCell ⟨w.heap.size+1+1,1,none⟩ (.slice Af nf cf)).heap.size=wr.heap.size by simp[Z2.out]);refine HK.out _ _ (fun h=>by simp at h) ?_;clear HK r0 r1 fr0 fr1 lR bF2 bG2 bR2 bI2 hb2 K2;generalize(w3.setCell ⟨w.heap.size+1+1,0,none⟩ (.int .i64 co)).setCell ⟨w.heap.size+1+1,1,none⟩ (.slice Af nf cf)=w4 at*;have q0:=bI3.at0;have q1:=bI3.at1;have q2:=bI3.at2;have q3:=bR3.at0;have q4:=bR3.at1;refine uD (by kernel_rfl) ?_ _;go_wp2;refine bodyPost_ret (v:=.tuple #[.agg #[.slice Ac p.classes.length cc,.slice Am p.methods.length cm,.slice A n c],.agg #[.int .i64 co,.slice Af nf cf]]) (by simp[results,Tryz.results20,go_sem,q0,q1,q2,q3,q4]) rfl ?_;have hall:co=0→∃(ws:List Vs) (hs:List ((Option Addr×Nat)×(Option Addr×Nat))),Ver p ws∧n=ws.length∧hs.length=ws.length∧wr.ownsRow (gf+2) 138 3 (.slice A n c) n (riShape.cells ws hs)∧∀(j:Nat) (s:Vs) (h:(Option Addr×Nat)×(Option Addr×Nat)),ws[j]? =some s→hs[j]? =some h→riShape.inner (fun b=>gf+2≤b∧b<wr.heap.size∧(Value.slice A n c).ownBlock≠some b) wr s h:=fun h=>by
     obtain⟨hn,h0,ws,hs,hwl,hwv,hhl,own,hin⟩:=HokF.out h;have hkn:k=p.methods.length:=by
      have:=Hn.out
      by_cases hl:k<p.methods.length
      ·exact absurd ⟨hl,h⟩ this
      ·omega
     exact⟨ws,hs,⟨h0,by omega,fun i hi=>hwv i (by omega)⟩,by omega,by omega,by rw[hn];exact own,by rw[hn];exact hin⟩
    refine HP.out A n c co Af nf cf w4.drew ⟨fun h=>?_,fun h=>?_⟩ (fun vs hv=>?_) hb3.drew
    ·obtain⟨ws,hs,h1,-⟩:=hall h;exact⟨ws,h1⟩
    ·obtain⟨vs,hv⟩:=h;exact Classical.byContradiction fun hc=>Hbad'.out hc vs hv
    ·have hc:co=0:=Classical.byContradiction fun hc=>Hbad'.out hc vs hv
     obtain⟨ws,hs,h1,h2,h3,own,hin⟩:=hall hc;have e:vs=ws:=ver_inj hv h1;subst e;refine⟨h2,hs,h3,?_,fun j s h e1 e2=>?_⟩
     ·have own':=own_kb own (w':=w4.drew) (fun g hg=>K3.out g (own.lt g hg).1);rw[←h2];exact(rds_own own' (S:=fun b=>w.heap.size≤b∧b<w4.drew.heap.size) (fun g _ h1 h2=>⟨by omega,h2⟩))
     ·exact riShape.more (riShape.keep (w':=w4.drew) (hin j s h e1 e2) (Kept.sub (S:=fun b=>gf+2≤b) (S':=fun b=>gf+2≤b∧b<wr.heap.size∧(Value.slice A n c).ownBlock≠some b) (w:=wr) (w':=w4.drew) K3.out.kept (fun b h=>h.1))) (fun b h=>⟨by omega,by show b<w4.heap.size;rw[Z3.out];exact h.2.1⟩)
end Go.Proofs.YtgbgbmdiomhfiaaGreatDoor