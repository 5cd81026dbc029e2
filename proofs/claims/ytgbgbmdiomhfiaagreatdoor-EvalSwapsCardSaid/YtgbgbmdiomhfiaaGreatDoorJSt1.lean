/-
 Lv4, St0, St1.
-/
import Derived.Test.YtgbgbmdiomhfiaaGreatDoorJEv3
import Derived.Test.YtgbgbmdiomhfiaaGreatDoorJBt1
import Derived.Test.YtgbgbmdiomhfiaaGreatDoorJLv3
set_option linter.unusedSimpArgs false
set_option linter.unusedVariables false
set_option maxHeartbeats 4000000
set_option maxRecDepth 100000
namespace Go.Proofs.YtgbgbmdiomhfiaaGreatDoor
open Go.RowKit Go.Maps
theorem LvMem.turn{w w':World}{S:Nat→Prop}{gm gv:Nat}{mi d s d' s':Int}{mm:Mth}{L:List (Option Nat)}{gs gw:Nat→Nat}{Ak:Option Addr}{ck ga cl:Nat}(h:LvMem w S gm gv mi d s mm L gs gw Ak ck ga cl)(k:KB S w w')(hz:w.heap.size≤w'.heap.size)
 (hb:Blk w' gm 277 (lmv gv mi d' s' mm.pa mm.lo mm.re (.slice Ak mm.code.length ck) (.slice (some ⟨ga,0,none⟩) L.length cl))):LvMem w' S gm gv mi d' s' mm L gs gw Ak ck ga cl:=
 ⟨hb,h.code.keep (k.kept.sub fun b hb=>hb.1),⟨(k ga h.row.2).trans h.row.1,h.row.2⟩,fun i x e=>⟨(h.sets i x e).1.kb k (h.sets i x e).2.1 (fun _=>(h.sets i x e).2.2.1),(h.sets i x e).2⟩,h.inj,h.ne,fun b hb=>⟨Nat.lt_of_lt_of_le (h.lt b hb).1 hz,(h.lt b hb).2⟩⟩
def LvDone(w:World)(S:Nat→Prop)(gm gv:Nat)(vs:List Vs)(mi:Nat)(mm:Mth)(L:List (Option Nat))(gs:Nat→Nat):Prop:=∃gw Ak ck ga cl,LvMem w S gm gv mi 1 0 mm L gs gw Ak ck ga cl∧LvOk mm (seenL vs mi mm.code.length) L
def LvAny(w:World)(S:Nat→Prop)(gm gv:Nat)(vs:List Vs)(mi:Nat)(mm:Mth):Prop:=Blk w gm 277 (lm0 gv mi)∨∃L gs,LvDone w S gm gv vs mi mm L gs
structure LvIn(w:World)(Sv S:Nat→Prop)(gm gv:Nat)(p:Prg)(vs:List Vs)(mi:Nat)(mm:Mth):Prop where
 inf:InfoG w Sv gv p vs
 any:LvAny w S gm gv vs mi mm
 ne:gm≠gv∧¬Sv gm∧gm<w.heap.size
 hmi:mi<p.methods.length
 hmm:p.methods.getD mi default=mm
 vlen:vs.length=p.methods.length
 vsz:∀i,i<vs.length→(vs.getD i default).stacks.length=(vs.getD i default).seen.length
 cls:p.classes.length≤1000
 mts:p.methods.length≤1000∧∀k,k<p.methods.length→(p.methods.getD k default).code.length≤1000
 loc:nloc mm≤12
 nxt:∀pc:Nat,∀j∈nextF mm pc,0≤j
 tz:Tz w
 lo:(13+1)≤gm∧(13+1)≤gv
def LvOut(w:World)(Sv S:Nat→Prop)(gm gv:Nat)(p:Prg)(vs:List Vs)(mi:Nat)(mm:Mth)(L:List (Option Nat))(gs:Nat→Nat)(w':World):Prop:=
 InfoG w' Sv gv p vs∧KX (fun b=>b=gm∨b=gv) w w'∧∃S',(∀b,S' b→S b∨w.heap.size≤b)∧LvDone w' S' gm gv vs mi mm L gs
def AtPost(w:World)(Sv S:Nat→Prop)(gm gv:Nat)(p:Prg)(vs:List Vs)(mi:Nat)(mm:Mth)(pc:Nat)(e:Ending)(w':World):Prop:=
 ∃L gs,e=.returned (.pointer (if(L.getD pc none).isSome=true then some ⟨gs pc,0,none⟩else none))∧LvOut w Sv S gm gv p vs mi mm L gs w'
theorem once_any{w:World}{Sv S:Nat→Prop}{gm gv:Nat}{p:Prg}{vs:List Vs}{mi:Nat}{mm:Mth}(h:LvIn w Sv S gm gv p vs mi mm):
 Calls Tryz.prog 164 #[.pointer (some ⟨gm,2,none⟩),.func (.func 165) #[.pointer (some ⟨gm,0,none⟩)] #[]] w (fun e w'=>e=.returned (.tuple #[])∧∃L gs,LvOut w Sv S gm gv p vs mi mm L gs w'):=by
 have lgv:gv<w.heap.size:=by obtain⟨_,_,_,_,_,_,_,hA⟩:=h.inf;exact hA.blk.lt
 rcases h.any with hb|⟨L,gs,hd⟩
 ·have hg:=uA w ⟨gm,3,none⟩ (.int .i32 1);have hkx:KX (fun b=>b=gm) w (w.setCell ⟨gm,3,none⟩ (.int .i32 1)):=KX.of_grown hg (fun g e=>by cases e;rfl);have hkb:∀{w':World},KX (fun b=>b=gm) w w'→KB (fun b=>Sv b∨b=gv) w w':=fun k=>k.kb (fun b hb=>hb.elim (fun q=>⟨(h.inf.lt b q).1,fun e=>h.ne.2.1 (e▸q)⟩) (fun e=>⟨e▸lgv,fun q=>h.ne.1 (q.symm.trans e)⟩))
  have hI:=h.inf.kb (hkb hkx) hkx.size;have hB:=hb.set_ 3 (.int .i32 1);simp only[lm0,lmv,List.setIfInBounds_toArray,List.set_cons_zero,List.set_cons_succ]at hB;have hW:=work_any (w:=w.setCell ⟨gm,3,none⟩ (.int .i32 1)) ⟨hI,hB,⟨h.ne.1,h.ne.2.1⟩,h.hmi,h.hmm,h.vlen,h.vsz,h.cls,h.mts,h.loc,h.nxt,h.tz.kx hkx (fun b e=>by have:=h.lo;omega),h.lo⟩;refine(sy_do_first gm 2 165 _ w (fun w1=>WorkPost (w.setCell ⟨gm,3,none⟩ (.int .i32 1)) Sv gm gv p vs mi mm (.returned (.tuple #[])) w1) (hb.cell 2) (hb.cell 3) (hb.frozen 3) (hW.mono (fun e w' q=>⟨q.1,rfl,q.2⟩)) (enters_of Tryz.func165 (by kernel_rfl) rfl) (fun w' q=>by
   obtain⟨-,S1,L,gs,gw,Ak,ck,ga,cl,hM,-⟩:=q;exact⟨hM.blk.cell 2,hM.blk.cell 3,hM.blk.frozen 2,hM.blk.frozen 3⟩)).mono ?_
  rintro e w' ⟨rfl,w1,⟨-,S1,L,gs,gw,Ak,ck,ga,cl,hM,hO,hS,hK,hI1⟩,rfl⟩;have g2:w1.grownBy ((w1.drew.setCell ⟨gm,2,none⟩ (.int .u32 1)).setCell ⟨gm,2+1,none⟩ (.int .i32 0)) (some gm):=((gDrew w1 _).trans (uA _ ⟨gm,2,none⟩ _)).trans (uA _ ⟨gm,2+1,none⟩ _);have hB2:=((hM.blk.drew).set_ 2 (.int .u32 1)).set_ 3 (.int .i32 0);simp only[lmv,List.setIfInBounds_toArray,List.set_cons_zero,List.set_cons_succ]at hB2;have k2:KX (fun b=>b=gm) w1 _:=KX.of_grown g2 (fun g e=>by cases e;rfl);have hsz:(w.setCell ⟨gm,3,none⟩ (.int .i32 1)).heap.size=w.heap.size:=by simp
  refine⟨rfl,L,gs,hI1.kb (k2.kb (fun b hb=>hb.elim (fun q=>⟨(hI1.lt b q).1,fun e=>h.ne.2.1 (e▸q)⟩) (fun e=>⟨by rw[e];exact Nat.lt_of_lt_of_le lgv (by rw[←hsz];exact hK.size),fun q=>h.ne.1 (q.symm.trans e)⟩))) k2.size,(hkx.mono (fun b _ e=>.inl e)).trans (hK.trans (k2.mono (fun b _ e=>.inl e))),S1,fun b hb=>.inr (by rw[←hsz];exact hS b hb),gw,Ak,ck,ga,cl,hM.turn (k2.kb (fun b hb=>⟨(hM.lt b hb).1,(hM.lt b hb).2.1⟩)) k2.size hB2,hO⟩
 ·obtain⟨gw,Ak,ck,ga,cl,hM,hO⟩:=hd;refine(sy_do_done ⟨gm,2,none⟩ 2 1 (by decide) _ gm w (hM.blk.cell 2)).mono ?_;rintro e w' ⟨rfl,rfl⟩;exact⟨rfl,L,gs,h.inf,KX.refl _ _,S,fun b hb=>.inl hb,gw,Ak,ck,ga,cl,hM,hO⟩
theorem at_any{w:World}{Sv S:Nat→Prop}{gm gv:Nat}{p:Prg}{vs:List Vs}{mi:Nat}{mm:Mth}(h:LvIn w Sv S gm gv p vs mi mm){pc:Nat}(hpc:pc<mm.code.length):
 Calls Tryz.prog 149 #[.pointer (some ⟨gm,0,none⟩),.int .i64 pc] w (AtPost w Sv S gm gv p vs mi mm pc):=by
 have Ho:=eh (once_any h);have lm:=h.ne.2.2;have hmf:∀(fn:Go.Fn) (first cap:Array Value) (w:World),(Instr.makeFunc fn first cap).run Tryz.prog w=.ok (.func fn first cap) w:=fun _ _ _ _=>rfl
 have HP:=eh (fun L gs w' (q:LvOut w Sv S gm gv p vs mi mm L gs w')=>(show AtPost w Sv S gm gv p vs mi mm pc (.returned (.pointer (if(L.getD pc none).isSome=true then some ⟨gs pc,0,none⟩else none))) w' from⟨L,gs,rfl,q⟩));generalize AtPost w Sv S gm gv p vs mi mm pc=Post at*;clear h;go_enter Tryz.func149,Tryz.ntmps149;go_wp2_with fail;refine Ho.out.mono ?_;rintro e w1 ⟨rfl,L,gs,hO⟩;have hr:=HP.out L gs w1 hO;obtain⟨-,-,S',-,gw,Ak,ck,ga,cl,hM,hL⟩:=hO;have c9:w1.cell? ⟨gm,9,none⟩=some (.slice (some ⟨ga,0,none⟩) mm.code.length cl):=by have:=hM.blk.cell 9;rw[hL.shape.len]at this;exact this
 have cp:=prow_cell hM.row.1 (i:=pc) (by rw[hL.shape.len];exact hpc);have lm1:=hM.blk.lt;have lga:=hM.row.1.lt;have hp:pc<mm.code.length:=hpc;have h0:(0:Int)≤pc:=by omega
 have h1:(pc:Int)<mm.code.length:=by omega
 have Hr:=eh hr;clear hr hM hL Ho HP;generalize(if(L.getD pc none).isSome=true then some (⟨gs pc,0,none⟩:Addr)else none)=r at*;go_wp2;exact Hr.out
def LList(w:World)(Sv S:Nat→Prop)(gm gv:Nat)(p:Prg)(vs:List Vs)(mi:Nat)(mm:Mth)(f:List (Option Nat)→Nat)(e:Ending)(w':World):Prop:=
 ∃v L gs,e=.returned v∧w'.ownsRow w.heap.size 3 1 v (bl (f L)).length (bi (bl (f L)))∧LvOut w Sv S gm gv p vs mi mm L gs w'
theorem LvOut.below{w w1 w2:World}{Sv S:Nat→Prop}{gm gv:Nat}{p:Prg}{vs:List Vs}{mi:Nat}{mm:Mth}{L:List (Option Nat)}{gs:Nat→Nat}(h:LvOut w Sv S gm gv p vs mi mm L gs w1)(hb:Below w1.heap.size w1 w2):LvOut w Sv S gm gv p vs mi mm L gs w2:=by
 obtain⟨hI,hK,S',hS,gw,Ak,ck,ga,cl,hM,hO⟩:=h;exact⟨hI.below hb,hK.trans (KX.of_below hb (Nat.le_refl _)),S',hS,gw,Ak,ck,ga,cl,hM.kb (KB.of_below hb (fun b q=>q.elim (fun q=>(hM.lt b q).1) (fun e=>e▸hM.blk.lt))) hb.size,hO⟩
theorem locals_any{w:World}{Sv S:Nat→Prop}{gm gv:Nat}{p:Prg}{vs:List Vs}{mi:Nat}{mm:Mth}(h:LvIn w Sv S gm gv p vs mi mm){pc:Nat}(hpc:pc<mm.code.length):
 Calls Tryz.prog 118 #[.pointer (some ⟨gm,0,none⟩),.int .i64 pc] w (LList w Sv S gm gv p vs mi mm (fun L=>lvAt L pc)):=by
 have Ha:=eh (at_any h hpc);have HH:=eh h;clear h;go_enter Tryz.func118,Tryz.ntmps118;go_wp2_with fail;refine Ha.out.mono ?_;rintro e w1 ⟨L,gs,rfl,hO⟩;have HO:=eh hO;obtain⟨-,hK,S',-,gw,Ak,ck,ga,cl,hM,hL⟩:=hO;have hT:=HH.out.tz.kx hK (fun b hb=>by have:=HH.out.lo;rcases hb with e|e<;>omega);have hsz:=hK.size;cases hx:L.getD pc none with
 |none=>
  have HP:=eh (show LList w Sv S gm gv p vs mi mm (fun L=>lvAt L pc) (.returned (.slice none 0 0)) w1 from⟨_,L,gs,rfl,by
   have :lvAt L pc=0:=by unfold lvAt;rw[Int.toNat_natCast,hx];rfl
   show w1.ownsRow w.heap.size 3 1 _ (bl (lvAt L pc)).length (bi (bl (lvAt L pc)));rw[this,bl_zero];exact World.ownsRow_nil _ _ _ _,HO.out⟩)
  clear hx hM hL hK hT;simp only[Option.isSome_none,Bool.false_eq_true,if_false];go_wp2;go_ret;exact HP.out
 |some x=>
  have hl:pc<L.length:=by rw[hL.shape.len];exact hpc
  have hx2:L[pc]? =some (some x):=by
   rw[List.getD_eq_getElem?_getD,List.getElem?_eq_getElem hl]at hx;rw[List.getElem?_eq_getElem hl];exact congrArg some hx
  have Hl:=eh (slist_any (hM.sets pc x hx2).1 hT);have HP:=eh (fun v w2 (q:w2.ownsRow w1.heap.size 3 1 v (bl x).length (bi (bl x))) (hb:Below w1.heap.size w1 w2)=>(show LList w Sv S gm gv p vs mi mm (fun L=>lvAt L pc) (.returned v) w2 from⟨v,L,gs,rfl,by
   have :lvAt L pc=x:=by unfold lvAt;rw[Int.toNat_natCast,hx];rfl
   show w2.ownsRow w.heap.size 3 1 _ (bl (lvAt L pc)).length (bi (bl (lvAt L pc)));rw[this];exact own_base q hsz,HO.out.below hb⟩))
  clear hx hx2 hM hL hK hT hl;simp only[Option.isSome_some,if_true];go_wp2_with (go_at_call 150;refine Hl.out.mono ?_;rintro e w2 ⟨v,rfl,ho,hb⟩);go_ret;exact HP.out _ _ ho hb
theorem behindL_any{w:World}{Sv S:Nat→Prop}{gm gv:Nat}{p:Prg}{vs:List Vs}{mi:Nat}{mm:Mth}(h:LvIn w Sv S gm gv p vs mi mm){pc:Nat}(hpc:pc<mm.code.length)(hse:(seenL vs mi mm.code.length).getD pc false=true):
 Calls Tryz.prog 119 #[.pointer (some ⟨gm,0,none⟩),.int .i64 pc] w (LList w Sv S gm gv p vs mi mm (fun L=>behF mm L pc)):=by
 have Ha:=eh (at_any h hpc);have HH:=eh h;have hcl:mm.code.length≤1000:=by rw[←h.hmm];exact h.mts.2 mi h.hmi
 clear h;go_enter Tryz.func119,Tryz.ntmps119;go_wp2_with fail;refine Ha.out.mono ?_;rintro e w1 ⟨L,gs,rfl,hO⟩;have HO:=eh hO;obtain⟨-,hK,S',-,gw,Ak,ck,ga,cl,hM,hL⟩:=hO;have hT:=HH.out.tz.kx hK (fun b hb=>by have:=HH.out.lo;rcases hb with e|e<;>omega);have hsz:=hK.size;have hso:(L.getD pc none).isSome=true:=by rw[hL.shape.seen pc hpc];exact hse
 have Hb:=eh (behind_any hM HH.out.loc hcl hL.shape.len hT pc (HH.out.nxt pc));have HP:=eh (fun v w2 w3 (q:w3.ownsRow w2.heap.size 3 1 v (bl (behF mm L pc)).length (bi (bl (behF mm L pc)))) (hb:Below w1.heap.size w1 w2) (hb2:Below w2.heap.size w2 w3)=>(show LList w Sv S gm gv p vs mi mm (fun L=>behF mm L pc) (.returned v) w3 from⟨v,L,gs,rfl,own_base q (Nat.le_trans hsz hb.size),HO.out.below (hb.trans (hb2.mono hb.size))⟩));have HT:=eh hT;rw[if_pos hso];clear hso hM hL hK hT hse;go_wp2_with fail;refine Hb.out.mono ?_;rintro e w2 ⟨g,go,rfl,hS2,-,-,-,hb2⟩;have Hl:=eh (slist_any hS2 (HT.out.below hb2 HT.out.1));clear hS2;go_wp2_with (go_at_call 150;refine Hl.out.mono ?_;rintro e w3 ⟨v,rfl,ho,hb⟩);go_ret;exact HP.out _ _ _ ho hb2 hb
abbrev mthAt(p:Prg)(i:Nat):Mth:=p.methods.getD i default
structure PIn(p:Prg)(vs:List Vs):Prop where
 vlen:vs.length=p.methods.length
 vsz:∀i,i<vs.length→(vs.getD i default).stacks.length=(vs.getD i default).seen.length
 cls:p.classes.length≤1000
 mts:p.methods.length≤1000∧∀k,k<p.methods.length→(p.methods.getD k default).code.length≤1000
 loc:∀k,k<p.methods.length→nloc (mthAt p k)≤12
 nxt:∀k,k<p.methods.length→∀pc:Nat,∀j∈nextF (mthAt p k) pc,0≤j
def cntF(F:Nat→Option Nat)(M:Nat):Nat:=((List.range M).filter fun i=>(F i).isSome).length
theorem cntF_le(F:Nat→Option Nat)(M:Nat):cntF F M≤M:=Nat.le_trans (List.length_filter_le _ _) (by simp)
def fputN(F:Nat→Option Nat)(i g:Nat):Nat→Option Nat:=fun j=>if j=i then some g else F j
theorem cntF_put{F:Nat→Option Nat}{i g:Nat}(h:F i=none):∀M,cntF (fputN F i g) M=cntF F M+if i<M then 1 else 0
 |0=>rfl
 |M+1=>by
  have ih:=cntF_put (g:=g) h M;unfold cntF at*;rw[List.range_succ,List.filter_append,List.filter_append,List.length_append,List.length_append,ih]
  by_cases e:M=i
  ·subst e;simp[fputN,h]
  ·have e2:i<M+1↔i<M:=by omega
   simp only[e2,fputN,List.filter_cons,if_neg e,List.filter_nil];omega
def valF(F:Nat→Option Nat):Int→Option Value:=fun x=>if 0≤x then(F x.toNat).map fun g=>.pointer (some ⟨g,0,none⟩)else none
theorem valF_put(F:Nat→Option Nat)(i g:Nat):valF (fputN F i g)=vput (valF F) i (.pointer (some ⟨g,0,none⟩)):=by
 funext x;unfold valF vput fputN
 by_cases hx:0≤x
 ·by_cases e:x=(i:Int)
  ·subst e;simp
  ·have e2:¬x.toNat=i:=by omega
   simp[hx,e2,e]
 ·have e:¬x=(i:Int):=by omega
  simp[hx,e]
structure StsAt(w:World)(S:Nat→Prop)(gc gv gl B0:Nat)(p:Prg)(vs:List Vs)(f:Fn)(bv qv tv dv:Value)(F:Nat→Option Nat):Prop where
 chk:Chk w S gc gv p vs f bv qv tv (.map (some gl)) dv
 map:VMap Tryz.prog w 3 gl (cntF F p.methods.length) (valF F)
 low:gc<B0∧gv<B0∧gl<B0∧(13+1)≤B0∧(13+1)≤gv∧B0≤w.heap.size∧gl≠gv∧gl≠gc∧∀b,S b→b<B0∧b≠gl
 lo2:(13+1)≤gl
 tz:Tz w
 ent:∀i g,F i=some g→i<p.methods.length∧B0≤g∧g<w.heap.size∧∃Sg,LvAny w Sg g gv vs i (mthAt p i)∧∀b,Sg b→B0≤b∧b<w.heap.size∧∀j,F j≠some b
 inj:∀i j g,F i=some g→F j=some g→i=j
def Sts(w:World)(S:Nat→Prop)(gc gv gl B0:Nat)(p:Prg)(vs:List Vs)(f:Fn)(bv qv tv dv:Value):Prop:=∃F,StsAt w S gc gv gl B0 p vs f bv qv tv dv F
structure Fr(B0 gv gl:Nat)(w w':World):Prop where
 os:w'.os=w.os
 tape:w'.tape=w.tape
 output:w'.output=w.output
 size:w.heap.size≤w'.heap.size
 block:∀b,b<w.heap.size→b≠gv→b≠gl→(b<B0∨∀cs z,w.heap[b]? ≠some (.cells cs 277 z))→w'.heap[b]? =w.heap[b]?
section
variable {w w' w2:World} {S:Nat→Prop} {gc gv gl B0 g:Nat} {p:Prg} {vs:List Vs} {f:Fn} {bv qv tv dv:Value} {F:Nat→Option Nat} {t:TypeId} {cs:Array Value}
theorem Fr.refl(B0 gv gl:Nat)(w:World):Fr B0 gv gl w w:=⟨rfl,rfl,rfl,Nat.le_refl _,fun _ _ _ _ _=>rfl⟩
theorem Fr.trans(h:Fr B0 gv gl w w')(k:Fr B0 gv gl w' w2):Fr B0 gv gl w w2:=⟨k.os.trans h.os,k.tape.trans h.tape,k.output.trans h.output,Nat.le_trans h.size k.size,fun b hb h1 h2 h3=>by
 have e:=h.block b hb h1 h2 h3;exact(k.block b (Nat.lt_of_lt_of_le hb h.size) h1 h2 (h3.imp id (fun q cs z=>by rw[e];exact q cs z))).trans e⟩
theorem Fr.of_below{B:Nat}(h:Below B w w')(hB:w.heap.size≤B):Fr B0 gv gl w w':=⟨h.os,h.tape,h.output,h.size,fun b hb _ _ _=>h.block b (Nat.lt_of_lt_of_le hb hB)⟩
theorem Fr.of_grown{row:Option Nat}(h:w.grownBy w' row)(hr:∀g,row=some g→g=gv∨g=gl):Fr B0 gv gl w w':=⟨h.os,h.tape,h.output,h.size,fun b hb h1 h2 _=>h.block b hb (fun e=>(hr b e.symm).elim h1 h2)⟩
theorem Fr.of_kx(h:KX (fun b=>b=g∨b=gv) w w')(hB:B0≤g)(hg:∃cs z,w.heap[g]? =some (.cells cs 277 z)):Fr B0 gv gl w w':=⟨h.os,h.tape,h.output,h.size,fun b hb h1 _ h3=>h.block b hb (fun e=>e.elim (fun e=>by
 subst e;obtain⟨cs,z,hz⟩:=hg;exact h3.elim (fun h=>by omega) (fun h=>h cs z hz)) h1)⟩
theorem Blk.fr(h:Blk w g t cs)(k:Fr B0 gv gl w w')(ht:t≠277)(h1:g≠gv)(h2:g≠gl):Blk w' g t cs:=(k.block g h.lt h1 h2 (.inr fun cs' z e=>by
 unfold Blk at h;rw[h]at e;cases e;exact ht rfl)).trans h
theorem Fr.low(k:Fr B0 gv gl w w')(hB:B0≤w.heap.size){b:Nat}(hb:b<B0)(h1:b≠gv)(h2:b≠gl):w'.heap[b]? =w.heap[b]? :=k.block b (Nat.lt_of_lt_of_le hb hB) h1 h2 (.inl hb)
theorem LvAny.kb{Sg:Nat→Prop}{gm i:Nat}{mm:Mth}(h:LvAny w Sg gm gv vs i mm)(k:KB (fun b=>Sg b∨b=gm) w w')(hz:w.heap.size≤w'.heap.size):LvAny w' Sg gm gv vs i mm:=
 h.imp (fun h=>(k gm (.inr rfl)).trans h) fun⟨L,gs,gw,Ak,ck,ga,cl,hM,hO⟩=>⟨L,gs,gw,Ak,ck,ga,cl,hM.kb k hz,hO⟩
theorem LvAny.lm{Sg:Nat→Prop}{gm i:Nat}{mm:Mth}(h:LvAny w Sg gm gv vs i mm):∃cs z,w.heap[gm]? =some (.cells cs 277 z):=by
 rcases h with h|⟨L,gs,gw,Ak,ck,ga,cl,hM,-⟩
 ·exact⟨_,_,h⟩
 ·exact⟨_,_,hM.blk⟩
theorem StsAt.below(h:StsAt w S gc gv gl B0 p vs f bv qv tv dv F)(hb:Below w.heap.size w w'):StsAt w' S gc gv gl B0 p vs f bv qv tv dv F:=
 ⟨h.chk.below hb,h.map.below hb h.map.lt,⟨h.low.1,h.low.2.1,h.low.2.2.1,h.low.2.2.2.1,h.low.2.2.2.2.1,Nat.le_trans h.low.2.2.2.2.2.1 hb.size,h.low.2.2.2.2.2.2⟩,h.lo2,h.tz.below hb h.tz.1,fun i g e=>by
  obtain⟨h1,h2,h3,Sg,h4,h5⟩:=h.ent i g e;exact⟨h1,h2,Nat.lt_of_lt_of_le h3 hb.size,Sg,h4.kb (KB.of_below hb (fun b q=>q.elim (fun q=>(h5 b q).2.1) (fun e=>e▸h3))) hb.size,fun b q=>⟨(h5 b q).1,Nat.lt_of_lt_of_le (h5 b q).2.1 hb.size,(h5 b q).2.2⟩⟩,h.inj⟩
theorem Sts.below(h:Sts w S gc gv gl B0 p vs f bv qv tv dv)(hb:Below w.heap.size w w'):Sts w' S gc gv gl B0 p vs f bv qv tv dv:=let⟨F,h⟩:=h;⟨F,h.below hb⟩
theorem StsAt.lvin(h:StsAt w S gc gv gl B0 p vs f bv qv tv dv F)(hp:PIn p vs){i:Nat}(e:F i=some g):∃Sg,LvIn w S Sg g gv p vs i (mthAt p i)∧∀b,Sg b→B0≤b∧b<w.heap.size∧∀j,F j≠some b:=by
 obtain⟨h1,h2,h3,Sg,h4,h5⟩:=h.ent i g e;have hI:InfoG w S gv p vs:=by obtain⟨_,_,_,_,_,_,_,_,_,_,hc⟩:=h.chk;exact hc.inf
 have hl:=h.low;exact⟨Sg,⟨hI,h4,⟨by omega,fun q=>by have:=(hl.2.2.2.2.2.2.2.2 g q).1;omega,h3⟩,h1,rfl,hp.vlen,hp.vsz,hp.cls,hp.mts,hp.loc i h1,hp.nxt i h1,h.tz,⟨by omega,hl.2.2.2.2.1⟩⟩,h5⟩
theorem StsAt.out(h:StsAt w S gc gv gl B0 p vs f bv qv tv dv F){i:Nat}{Sg:Nat→Prop}{L:List (Option Nat)}{gs:Nat→Nat}(e:F i=some g)(hS:∀b,Sg b→B0≤b∧b<w.heap.size∧∀j,F j≠some b)(hO:LvOut w S Sg g gv p vs i (mthAt p i) L gs w'):
 StsAt w' S gc gv gl B0 p vs f bv qv tv dv F∧Fr B0 gv gl w w':=by
 obtain⟨hI,hK,S',hS',hD⟩:=hO;obtain⟨e1,e2,e3,Sg0,e4,e5⟩:=h.ent i g e;have hl:=h.low;have hz:=hK.size;refine⟨⟨?_,h.map.keep (hK.block gl h.map.lt (fun q=>by omega)),⟨hl.1,hl.2.1,hl.2.2.1,hl.2.2.2.1,hl.2.2.2.2.1,Nat.le_trans hl.2.2.2.2.2.1 hz,hl.2.2.2.2.2.2⟩,h.lo2,h.tz.kx hK (fun b q=>by omega),fun j g' e'=>?_,h.inj⟩,Fr.of_kx hK e2 e4.lm⟩
 ·obtain⟨Ac,cc,Am,cm,An,cn,Ab,cb,As,cs,hc⟩:=h.chk;have hk':Kept S w w':=hK.kept (fun b q=>⟨(hc.lt b q).1,fun q2=>by have:=hl.2.2.2.2.2.2.2.2 b q;have:=(hc.lt b q).2.2;omega⟩);exact⟨Ac,cc,Am,cm,An,cn,Ab,cb,As,cs,hc.blk.kx hK (fun q=>by have:=hc.gv.2;omega),hc.prg.keep hk',hc.fn.keep hk',hI,fun b q=>⟨Nat.lt_of_lt_of_le (hc.lt b q).1 hz,(hc.lt b q).2⟩,⟨Nat.lt_of_lt_of_le hc.gv.1 hz,hc.gv.2⟩,hc.cap⟩
 ·obtain⟨q1,q2,q3,Sj,q4,q5⟩:=h.ent j g' e'
  by_cases ej:j=i
  ·subst ej;rw[e]at e';cases e';obtain⟨gw,Ak,ck,ga,cl,hM,hOk⟩:=hD;exact⟨q1,q2,Nat.lt_of_lt_of_le q3 hz,S',.inr ⟨L,gs,gw,Ak,ck,ga,cl,hM,hOk⟩,fun b hb=>by
    rcases hS' b hb with q|q
    ·exact⟨(hS b q).1,(hM.lt b hb).1,(hS b q).2.2⟩
    ·exact⟨by omega,(hM.lt b hb).1,fun k ek=>by have:=(h.ent k b ek).2.2.1;omega⟩⟩
  ·have hne:g'≠g:=fun q=>ej (h.inj j i g (q▸e') e)
   refine⟨q1,q2,Nat.lt_of_lt_of_le q3 hz,Sj,q4.kb (hK.kb (fun b q=>?_)) hz,fun b q=>⟨(q5 b q).1,Nat.lt_of_lt_of_le (q5 b q).2.1 hz,(q5 b q).2.2⟩⟩;rcases q with q|rfl
   ·exact⟨(q5 b q).2.1,fun q6=>q6.elim (fun q6=>(q5 b q).2.2 i (q6▸e)) (fun q6=>by have:=(q5 b q).1;omega)⟩
   ·exact⟨q3,fun q6=>q6.elim hne (fun q6=>by omega)⟩
end
section
variable {w w2 w3:World} {S:Nat→Prop} {gc gv gl B0 g:Nat} {p:Prg} {vs:List Vs} {f:Fn} {bv qv tv dv:Value} {F:Nat→Option Nat} {i:Nat}
theorem StsAt.add(h:StsAt w S gc gv gl B0 p vs f bv qv tv dv F)(hi:i<p.methods.length)(hF:F i=none)(hb:Below w.heap.size w w2)(hB:Blk w2 g 277 (lm0 gv i))(hg:w.heap.size≤g)(hu:w2.grownBy w3 (some gl))
 (hm:VMap Tryz.prog w3 3 gl (cntF F p.methods.length+1) (vput (valF F) i (.pointer (some ⟨g,0,none⟩)))):StsAt w3 S gc gv gl B0 p vs f bv qv tv dv (fputN F i g)∧Fr B0 gv gl w w3:=by
 have h2:=h.below hb;have hl:=h2.low;have hzl:=h.low.2.2.2.2.2.1;refine⟨⟨?_,by rw[cntF_put hF,if_pos hi,valF_put];exact hm,⟨hl.1,hl.2.1,hl.2.2.1,hl.2.2.2.1,hl.2.2.2.2.1,Nat.le_trans hl.2.2.2.2.2.1 hu.size,hl.2.2.2.2.2.2⟩,h.lo2,h2.tz.grown hu (by have:=h.lo2;show 13≠gl;omega),fun j g' e=>?_,fun j k g' e1 e2=>?_⟩,(Fr.of_below hb (Nat.le_refl _)).trans (Fr.of_grown hu (fun g e=>by cases e;exact .inr rfl))⟩
 ·obtain⟨Ac,cc,Am,cm,An,cn,Ab,cb,As,cs,hc⟩:=h2.chk;exact Chk.kb ⟨Ac,cc,Am,cm,An,cn,Ab,cb,As,cs,hc⟩ (KB.of_grown hu (fun b q=>by
   rcases q with q|rfl|rfl
   ·exact(hc.lt b q).1
   ·exact hc.gv.1
   ·exact hc.blk.lt) (fun b q e=>by
   cases e;rcases q with q|q|q
   ·exact(hl.2.2.2.2.2.2.2.2 _ q).2 rfl
   ·exact hl.2.2.2.2.2.2.1 q
   ·exact hl.2.2.2.2.2.2.2.1 q)) hu.size
 ·unfold fputN at e
  by_cases ej:j=i
  ·subst ej;rw[if_pos rfl]at e;cases e;exact⟨hi,by omega,Nat.lt_of_lt_of_le hB.lt hu.size,fun _=>False,.inl (hB.grown hu (fun e=>by have:=Option.some.inj e;omega)),fun b q=>q.elim⟩
  ·rw[if_neg ej]at e;obtain⟨q1,q2,q3,Sj,q4,q5⟩:=h.ent j g' e;have hk:KX (fun b=>b=gl) w w3:=(KX.of_below hb (Nat.le_refl _)).trans (KX.of_grown hu (fun g e=>by cases e;rfl));refine⟨q1,q2,Nat.lt_of_lt_of_le q3 hk.size,Sj,q4.kb (hk.kb (fun b q=>by
    rcases q with q|rfl
    ·have:=q5 b q;exact⟨this.2.1,by omega⟩
    ·exact⟨q3,by omega⟩)) hk.size,fun b q=>⟨(q5 b q).1,Nat.lt_of_lt_of_le (q5 b q).2.1 hk.size,fun k ek=>?_⟩⟩
   unfold fputN at ek
   by_cases ek2:k=i
   ·rw[if_pos ek2]at ek;cases ek;have:=(q5 _ q).2.1;omega
   ·rw[if_neg ek2]at ek;exact(q5 b q).2.2 k ek
 ·unfold fputN at e1 e2
  by_cases a1:j=i
  ·by_cases a2:k=i
   ·omega
   ·rw[if_pos a1]at e1;rw[if_neg a2]at e2;cases e1;have:=(h.ent k _ e2).2.2.1;omega
  ·by_cases a2:k=i
   ·rw[if_neg a1]at e1;rw[if_pos a2]at e2;cases e2;have:=(h.ent j _ e1).2.2.1;omega
   ·rw[if_neg a1]at e1;rw[if_neg a2]at e2;exact h.inj j k g' e1 e2
end
def CLPost(w:World)(S:Nat→Prop)(gc gv gl B0:Nat)(p:Prg)(vs:List Vs)(f:Fn)(bv qv tv dv:Value)(i:Nat)(e:Ending)(w':World):Prop:=
 ∃g F',e=.returned (.pointer (some ⟨g,0,none⟩))∧StsAt w' S gc gv gl B0 p vs f bv qv tv dv F'∧F' i=some g∧Fr B0 gv gl w w'
theorem valF_nat(F:Nat→Option Nat)(i:Nat):valF F (i:Int)=(F i).map fun g=>.pointer (some ⟨g,0,none⟩):=by unfold valF;rw[if_pos (by omega),Int.toNat_natCast]
theorem chkLive_any{w:World}{S:Nat→Prop}{gc gv gl B0:Nat}{p:Prg}{vs:List Vs}{f:Fn}{bv qv tv dv:Value}{F:Nat→Option Nat}(h:StsAt w S gc gv gl B0 p vs f bv qv tv dv F)(hp:PIn p vs){i:Nat}(hi:i<p.methods.length):
 Calls Tryz.prog 117 #[.pointer (some ⟨gc,0,none⟩),.int .i64 i] w (CLPost w S gc gv gl B0 p vs f bv qv tv dv i):=by
 have H:=eh h;have hM:=hp.mts.1;have c11:w.cell? ⟨gc,11,none⟩=some (.map (some gl)):=by obtain⟨_,_,_,_,_,_,_,_,_,_,hc⟩:=h.chk;exact hc.blk.cell 11
 have c0:w.cell? ⟨gc,0,none⟩=some (.pointer (some ⟨gv,0,none⟩)):=by obtain⟨_,_,_,_,_,_,_,_,_,_,hc⟩:=h.chk;exact hc.blk.cell 0
 have lC:gc<w.heap.size:=by have:=h.low;omega
 have hwf:wf64 i:=wf64_of (by omega);have HP:=eh (fun g F' w' (h1:StsAt w' S gc gv gl B0 p vs f bv qv tv dv F') (h2:F' i=some g) (h3:Fr B0 gv gl w w')=>(show CLPost w S gc gv gl B0 p vs f bv qv tv dv i (.returned (.pointer (some ⟨g,0,none⟩))) w' from⟨g,F',rfl,h1,h2,h3⟩));generalize CLPost w S gc gv gl B0 p vs f bv qv tv dv i=Post at*;clear h;have hlook:=fun(W:World) (F':Nat→Option Nat) (g':Option Nat) (q:StsAt W S gc gv gl B0 p vs f bv qv tv dv F') (e:F' i=g')=>(show(Instr.lookup 115 (.map (some gl)) (.int .i64 i) false).run Tryz.prog W=.ok (.pointer (g'.map fun g=>⟨g,0,none⟩)) W from by
  have:=q.map.look Tryz.underlying3 Tryz.underlying115 (Tryz.zeroValue227 _) hwf;rw[this,valF_nat,e];cases g'<;>rfl)
 have HLk:=eh hlook;clear hlook;cases hF:F i with
 |some g=>
  have HR:=eh (HP.out g F w H.out hF (Fr.refl _ _ _ _));have hl:=HLk.out w F _ H.out hF;simp only[Option.map_some]at hl;clear hF;go_enter Tryz.func117,Tryz.ntmps117;go_wp2;exact HR.out
 |none=>
  have hl:=HLk.out w F _ H.out hF;simp only[Option.map_none]at hl;have HFn:=eh hF;clear hF;go_enter Tryz.func117,Tryz.ntmps117;go_upto_region 2 with(fail);clear hl;refine uE (S:=fun W=>W.cell? ⟨gc,11,none⟩=some (.map (some gl))∧W.cell? ⟨gc,0,none⟩=some (.pointer (some ⟨gv,0,none⟩))) (fun q=>decide (q<11)) (by kernel_rfl) ⟨c11,c0⟩ (fun HS=>?_);clear c11 c0;have hbd:Below w.heap.size w w.drew:=(Below.refl _ w).drew;have lCd:gc<w.drew.heap.size:=lC;generalize w.drew=wd at*
  iterate 10 (refine uO rfl rfl HS (.inl ⟨rfl,fun W hW=>by obtain⟨h0,h1⟩:=hW;go_simp;rfl⟩) ?_;simp only[pS])
  refine uP rfl rfl (fun K HJ=>?_);go_simp;refine(liveOf_any gv i wd).mono ?_;rintro e w2 ⟨rfl,hw2⟩;have hb2:Below wd.heap.size wd w2:=by rw[hw2];exact(Below.refl _ wd).alloc (Nat.le_refl _) _
  have hB2:Blk w2 wd.heap.size 277 (lm0 gv i):=by rw[hw2];exact Blk.new _ _ _
  clear hw2;have hb:=hbd.trans (hb2.mono hbd.size);have C2:w2.cell? ⟨gc,11,none⟩=some (.map (some gl))∧w2.cell? ⟨gc,0,none⟩=some (.pointer (some ⟨gv,0,none⟩)):=⟨(hb2.cell (p:=⟨gc,11,none⟩) lCd).trans HS.1,(hb2.cell (p:=⟨gc,0,none⟩) lCd).trans HS.2⟩;refine HJ.out _ _ (fun _=>C2) ?_;clear HJ HS;simp only[pS];obtain⟨w3,hrun,hm3,hg3⟩:=(H.out.below hb).map.upd Tryz.underlying3 Tryz.underlying115 (by have:=cntF_le F p.methods.length;unfold maxLen;omega) hwf (.pointer (some ⟨wd.heap.size,0,none⟩));obtain⟨hA,hFr⟩:=H.out.add hi HFn.out hb hB2 hbd.size hg3 hm3;have HA:=eh hA;have HFr:=eh hFr;have hl:=HLk.out w3 _ (some wd.heap.size) hA (by unfold fputN;rw[if_pos rfl]);simp only[Option.map_some]at hl;have hc11:w3.cell? ⟨gc,11,none⟩=some (.map (some gl)):=by obtain⟨_,_,_,_,_,_,_,_,_,_,hc⟩:=hA.chk;exact hc.blk.cell 11
  have lC3:gc<w3.heap.size:=by have:=hA.low;omega
  clear hA hFr hm3 hg3 hB2 hb2;generalize wd.heap.size=g at*;refine uP rfl rfl (fun K HJ=>?_);go_simp;refine HJ.out _ _ (fun h=>by cases h) ?_;clear HJ hrun C2;simp only[pS];refine uD (by kernel_rfl) ?_ _;go_wp2;exact HP.out g _ w3 HA.out (by unfold fputN;rw[if_pos rfl]) HFr.out
end Go.Proofs.YtgbgbmdiomhfiaaGreatDoor