/-
 Ev0, Ev1, Ev2, RegX, Ev3, Bt2, Bt3, Bt5, Bt4, Tz.
-/
import Derived.RangeFuncBox
import Derived.RangeFuncCalls
import Derived.RangeFuncLeaves
import Derived.RangeFuncWrites
import Derived.Shelf.Abstract
import Derived.Shelf.Spec.TrailingZeros
import Derived.OwnWalkIn
import Derived.TacticsInMore
import Derived.LoopNIn
import Derived.LoopIn
import Derived.Maps.AppendAt
import Derived.Lib.LaidTab
import Derived.Test.YtgbgbmdiomhfiaaGreatDoorJVr5
import Derived.Test.YtgbgbmdiomhfiaaGreatDoorJRegPar
import Derived.Test.YtgbgbmdiomhfiaaGreatDoorJVr8
import Derived.Test.YtgbgbmdiomhfiaaGreatDoorJKx
import Derived.Test.YtgbgbmdiomhfiaaGreatDoorJBt1
import Derived.Test.YtgbgbmdiomhfiaaGreatDoorJLightB
set_option linter.unusedSimpArgs false
set_option linter.unusedVariables false
set_option maxHeartbeats 4000000
set_option maxRecDepth 100000
namespace Go.Proofs.YtgbgbmdiomhfiaaGreatDoor
open Go.RowKit Go.Maps
structure RC where
 a:Value
 b:Value
 fs:Value
 st:Value
 inp:Value
 dn:Value
 out:Value
structure RX where
 fuel:Int
 depth:Int
 kind:Int
 trap:Int
 mth:Int
 pc:Int
 val:Int
 pts:Int
 dns:Int
 nds:Int
abbrev rcs(k:RC)(x:RX):Array Value:=#[k.a,k.b,k.fs,k.st,k.inp,.int .i64 x.fuel,k.dn,.int .i64 x.depth,.int .i64 x.kind,.int .i64 x.trap,.int .i64 x.mth,.int .i64 x.pc,.int .i64 x.val,k.out,.int .i64 x.pts,.int .i64 x.dns,.int .i64 x.nds]
abbrev RAt(w:World)(gr:Nat)(k:RC)(x:RX):Prop:=Blk w gr 79 (rcs k x)
def RX.ended(x:RX)(kind trap m pc:Int):RX:={x with kind:=kind,trap:=trap,mth:=m,pc:=pc}
abbrev avv(v:Bool×Int):Value:=.agg #[.bool v.1,.int .i64 v.2]
def EndPost(w:World)(gr:Nat)(k:RC)(x:RX)(v:Value)(e:Ending)(w':World):Prop:=e=.returned v∧RAt w' gr k x∧w.grownBy w' (some gr)
theorem end_any{w:World}{gr:Nat}{k:RC}{x:RX}(h:RAt w gr k x)(kind trap m pc:Int):
 Calls Tryz.prog 55 #[.pointer (some ⟨gr,0,none⟩),.int .i64 kind,.int .i64 trap,.int .i64 m,.int .i64 pc] w (EndPost w gr k (x.ended kind trap m pc) (.tuple #[avv (false,0),.bool false])):=by
 have HP:=eh (fun w' (h1:RAt w' gr k (x.ended kind trap m pc)) (h2:w.grownBy w' (some gr))=>(show EndPost w gr k (x.ended kind trap m pc) (.tuple #[avv (false,0),.bool false]) (.returned (.tuple #[avv (false,0),.bool false])) w' from⟨rfl,h1,h2⟩));generalize EndPost w gr k (x.ended kind trap m pc) (.tuple #[avv (false,0),.bool false])=Post at*;have hA:=h.alloc (.cells #[.bool false,.int .i64 0] 83);have hZ:=Blk.new w 83 #[.bool false,.int .i64 0];have hg:=World.grownBy_alloc w (.cells #[.bool false,.int .i64 0] 83) (some gr);have hne:w.heap.size≠gr:=by have:=h.lt;omega
 have c8:=hA.cell 8;have c9:=hA.cell 9;have c10:=hA.cell 10;have c11:=hA.cell 11;simp at c8 c9 c10 c11;have f8:=hA.frozen 8;have f9:=hA.frozen 9;have f10:=hA.frozen 10;have f11:=hA.frozen 11;have lA:=hA.lt;go_enter Tryz.func55,Tryz.ntmps55;go_upto_region 2 with(fail);have hB:=(((hA.set_ 8 (.int .i64 kind)).set_ 9 (.int .i64 trap)).set_ 10 (.int .i64 m)).set_ 11 (.int .i64 pc);have hg2:=(((hg.trans (uA _ ⟨gr,8,none⟩ (.int .i64 kind))).trans (uA _ ⟨gr,9,none⟩ (.int .i64 trap))).trans (uA _ ⟨gr,10,none⟩ (.int .i64 m))).trans (uA _ ⟨gr,11,none⟩ (.int .i64 pc));have hZ2:=(((hZ.far (p:=⟨gr,8,none⟩) hne (.int .i64 kind)).far (p:=⟨gr,9,none⟩) hne (.int .i64 trap)).far (p:=⟨gr,10,none⟩) hne (.int .i64 m)).far (p:=⟨gr,11,none⟩) hne (.int .i64 pc);simp only[List.setIfInBounds_toArray,List.set_cons_zero,List.set_cons_succ]at hB;obtain⟨gz,hgz⟩:∃gz,gz=w.heap.size:=⟨_,rfl⟩;rw[←hgz]at hZ2 hne⊢;have hzw:w.heap.size≤gz:=by omega
 clear hgz hZ hg hA c8 c9 c10 c11 f8 f9 f10 f11 lA;generalize((((w.alloc (.cells #[.bool false,.int .i64 0] 83)).setCell ⟨gr,8,none⟩ (.int .i64 kind)).setCell ⟨gr,9,none⟩ (.int .i64 trap)).setCell ⟨gr,10,none⟩ (.int .i64 m)).setCell ⟨gr,11,none⟩ (.int .i64 pc)=w2 at*;have z0:=hZ2.at0;have z1:=hZ2.at1;have g0:=hZ2.frozen 0;have g1:=hZ2.frozen 1;have lz:=hZ2.lt;go_wp2;have hZ3:=(hZ2.set_ 0 (.bool false)).set_ 1 (.int .i64 0);have hB3:=(hB.far (p:=⟨gz,0,none⟩) (Ne.symm hne) (.bool false)).far (p:=⟨gz,1,none⟩) (Ne.symm hne) (.int .i64 0);have hg3:=uK (uK hg2 (p:=⟨gz,0,none⟩) hzw (.bool false)) (p:=⟨gz,1,none⟩) hzw (.int .i64 0);generalize(w2.setCell ⟨gz,0,none⟩ (.bool false)).setCell ⟨gz,1,none⟩ (.int .i64 0)=w3 at*;have q0:w3.cell? ⟨gz,0,none⟩=some (.bool false):=hZ3.cell 0;have q1:w3.cell? ⟨gz,1,none⟩=some (.int .i64 0):=hZ3.cell 1;refine bodyPost_ret (v:=.tuple #[avv (false,0),.bool false]) (by simp[results,Tryz.results55,go_sem,q0,q1]) rfl ?_;exact HP.out w3 hB3 hg3
def burnX(x:RX)(m pc:Int):RX:=if x.fuel=0 then x.ended 3 0 m pc else{x with fuel:=x.fuel-1}
theorem burn_any{w:World}{gr:Nat}{k:RC}{x:RX}(h:RAt w gr k x)(hf:0≤x.fuel∧x.fuel≤2000)(m pc:Int):
 Calls Tryz.prog 60 #[.pointer (some ⟨gr,0,none⟩),.int .i64 m,.int .i64 pc] w (EndPost w gr k (burnX x m pc) (.bool (!decide (x.fuel=0)))):=by
 have HP:=eh (fun b w' x' (h0:burnX x m pc=x'∧b= !decide (x.fuel=0)) (h1:RAt w' gr k x') (h2:w.grownBy w' (some gr))=>(show EndPost w gr k (burnX x m pc) (.bool (!decide (x.fuel=0))) (.returned (.bool b)) w' from by rw[h0.1,h0.2];exact⟨rfl,h1,h2⟩));generalize EndPost w gr k (burnX x m pc) (.bool (!decide (x.fuel=0)))=Post at*;have c5:w.cell? ⟨gr,5,none⟩=some (.int .i64 x.fuel):=h.cell 5;have f5:=h.frozen 5;have lA:=h.lt;have He:=eh (end_any h 3 0 m pc);have HB:=eh h;clear h
 by_cases h0:x.fuel=0
 ·have HX:=eh (show burnX x m pc=x.ended 3 0 m pc∧false= !decide (x.fuel=0) by unfold burnX;rw[if_pos h0,decide_eq_true h0];exact⟨rfl,rfl⟩);have g0:(x.fuel==0)=true:=by simpa using h0
  clear h0;go_enter Tryz.func60,Tryz.ntmps60;go_wp2_with (go_at_call 55;refine He.out.mono ?_;rintro e w2 ⟨rfl,hb2,hg2⟩);exact HP.out false w2 _ HX.out hb2 hg2
 ·have HX:=eh (show burnX x m pc={x with fuel:=x.fuel-1}∧true= !decide (x.fuel=0) by unfold burnX;rw[if_neg h0,decide_eq_false h0];exact⟨rfl,rfl⟩);have g0:(x.fuel==0)=false:=by simpa using h0
  have hw:wrap64 (x.fuel-1)=x.fuel-1:=by unfold wrap64;omega
  have Hw:=eh hw;have hB:=HB.out.set_ 5 (.int .i64 (x.fuel-1));simp only[List.setIfInBounds_toArray,List.set_cons_zero,List.set_cons_succ]at hB;have HR:=eh (HP.out true _ _ HX.out hB (uA w ⟨gr,5,none⟩ (.int .i64 (x.fuel-1))));clear h0 hB HB;go_enter Tryz.func60,Tryz.ntmps60;go_wp2;exact HR.out
def deepX(x:RX)(n:Int):RX:=if 400<x.depth+n then{x with depth:=x.depth+n}.ended 5 0 0 0 else{x with depth:=x.depth+n}
theorem deeper_any{w:World}{gr:Nat}{k:RC}{x:RX}(h:RAt w gr k x){n:Int}(hf: -100000≤x.depth∧x.depth≤100000∧-100000≤n∧n≤100000):
 Calls Tryz.prog 26 #[.pointer (some ⟨gr,0,none⟩),.int .i64 n] w (EndPost w gr k (deepX x n) (.bool (!decide (400<x.depth+n)))):=by
 have HP:=eh (fun b w' x' (h0:deepX x n=x'∧b= !decide (400<x.depth+n)) (h1:RAt w' gr k x') (h2:w.grownBy w' (some gr))=>(show EndPost w gr k (deepX x n) (.bool (!decide (400<x.depth+n))) (.returned (.bool b)) w' from by rw[h0.1,h0.2];exact⟨rfl,h1,h2⟩));generalize EndPost w gr k (deepX x n) (.bool (!decide (400<x.depth+n)))=Post at*;have c7:w.cell? ⟨gr,7,none⟩=some (.int .i64 x.depth):=h.cell 7;have f7:=h.frozen 7;have lA:=h.lt;have hw:wrap64 (x.depth+n)=x.depth+n:=by unfold wrap64;omega
 have hB:=h.set_ 7 (.int .i64 (x.depth+n));simp only[List.setIfInBounds_toArray,List.set_cons_zero,List.set_cons_succ]at hB;have hB':RAt (w.setCell ⟨gr,7,none⟩ (.int .i64 (x.depth+n))) gr k {x with depth:=x.depth+n}:=hB;have hg:=uA w ⟨gr,7,none⟩ (.int .i64 (x.depth+n));have HB:=eh hB';have HG:=eh hg;clear h hB hB' hg;go_enter Tryz.func26,Tryz.ntmps26;go_upto_region 2 with(fail);generalize w.setCell ⟨gr,7,none⟩ (.int .i64 (x.depth+n))=w2 at*;clear c7 f7 lA;have c7:w2.cell? ⟨gr,7,none⟩=some (.int .i64 (x.depth+n)):=HB.out.cell 7;have lA:=HB.out.lt
 by_cases h0:400<x.depth+n
 ·have HX:=eh (show deepX x n={x with depth:=x.depth+n}.ended 5 0 0 0∧false= !decide (400<x.depth+n) by unfold deepX;rw[if_pos h0,decide_eq_true h0];exact⟨rfl,rfl⟩);have He:=eh (end_any HB.out 5 0 0 0);go_wp2_with (go_at_call 55;refine He.out.mono ?_;rintro e w3 ⟨rfl,hb3,hg3⟩);exact HP.out false w3 _ HX.out hb3 (HG.out.trans hg3)
 ·have HX:=eh (show deepX x n={x with depth:=x.depth+n}∧true= !decide (400<x.depth+n) by unfold deepX;rw[if_neg h0,decide_eq_false h0];exact⟨rfl,rfl⟩);have HR:=eh (HP.out true w2 _ HX.out HB.out HG.out);go_wp2;exact HR.out
def safeF(op:Int):Bool:=decide (op∈[(42:Int),43,24,28,32])
theorem safe_any(op:Int)(w:World):Calls Tryz.prog 91 #[.int .i64 op] w fun e w'=>e=.returned (.bool (safeF op))∧Below w.heap.size w w':=by
 have HP:=eh (fun w' (h:Below w.heap.size w w')=>(show(fun(e:Ending) (w':World)=>e=.returned (.bool (safeF op))∧Below w.heap.size w w') (.returned (.bool (safeF op))) w' from⟨rfl,h⟩));generalize(fun(e:Ending) (w':World)=>e=.returned (.bool (safeF op))∧Below w.heap.size w w')=Post at*;have hB:=Blk.new w 3 #[.int .i64 42,.int .i64 43,.int .i64 24,.int .i64 28,.int .i64 32];have hb:=(Below.refl w.heap.size w).alloc (Nat.le_refl _) (.cells #[.int .i64 42,.int .i64 43,.int .i64 24,.int .i64 28,.int .i64 32] 3);have Hc:=eh (contains_any (w.alloc (.cells #[.int .i64 42,.int .i64 43,.int .i64 24,.int .i64 28,.int .i64 32] 3)) (l:=[(42:Int),43,24,28,32]) (n:=5) (c:=5) (A:=some ⟨w.heap.size,0,none⟩) (B:=w.heap.size+1) ⟨by simp[ints],fun _=>⟨w.heap.size,0,rfl,Nat.lt_succ_self _,fun j u hu=>by rw[Nat.zero_add,hB.cell];simpa[ints]using hu⟩⟩ (by decide) op);obtain⟨r,hr⟩:∃r,r=decide (op∈[(42:Int),43,24,28,32]):=⟨_,rfl⟩;unfold safeF at HP;rw[←hr]at Hc HP;clear hB hr;go_enter Tryz.func91,Tryz.ntmps91;go_wp2_with (go_at_call 45;refine Hc.out.mono ?_;rintro e w' ⟨rfl,rfl⟩);exact HP.out _ hb
def twoF(op a b:Int):Int:=if op=8 then wrap64 (a+b)else if a<b then 1 else 0
def TwoPost(w:World)(v:Value)(e:Ending)(w':World):Prop:=e=.returned v∧Below w.heap.size w w'
theorem wtruth_any(b:Bool)(w:World):Calls Tryz.prog 154 #[.bool b] w fun e w'=>e=.returned (.int .i64 (if b=true then 1 else 0))∧w'=w:=by
 cases b
 ·go_enter Tryz.func154,Tryz.ntmps154;go_wp2;go_ret;exact⟨rfl,rfl⟩
 ·go_enter Tryz.func154,Tryz.ntmps154;go_wp2;go_ret;exact⟨rfl,rfl⟩
theorem two_add(a b:Int)(w:World):Calls Tryz.prog 129 #[.int .i64 8,.int .i64 a,.int .i64 b] w fun e w'=>e=.returned (.tuple #[.int .i64 (wrap64 (a+b)),.int .i64 0])∧w'=w:=by
 have HP:=eh (show(fun(e:Ending) (w':World)=>e=.returned (.tuple #[.int .i64 (wrap64 (a+b)),.int .i64 0])∧w'=w) (.returned (.tuple #[.int .i64 (wrap64 (a+b)),.int .i64 0])) w from⟨rfl,rfl⟩);generalize(fun(e:Ending) (w':World)=>e=.returned (.tuple #[.int .i64 (wrap64 (a+b)),.int .i64 0])∧w'=w)=Post at*;go_enter Tryz.func129,Tryz.ntmps129;go_wp2;exact HP.out
theorem two_lt(a b:Int)(w:World):Calls Tryz.prog 129 #[.int .i64 19,.int .i64 a,.int .i64 b] w fun e w'=>e=.returned (.tuple #[.int .i64 (if a<b then 1 else 0),.int .i64 0])∧w'=w:=by
 have Ht:=eh (wtruth_any (decide (a<b)));have he:(if a<b then(1:Int)else 0)=if decide (a<b)=true then 1 else 0:=by by_cases h:a<b<;>simp[h]
 rw[he];clear he;obtain⟨r,hr⟩:∃r:Int,r=if decide (a<b)=true then 1 else 0:=⟨_,rfl⟩
 rw[←hr]at Ht⊢;clear hr;have HP:=eh (show(fun(e:Ending) (w':World)=>e=.returned (.tuple #[.int .i64 r,.int .i64 0])∧w'=w) (.returned (.tuple #[.int .i64 r,.int .i64 0])) w from⟨rfl,rfl⟩);generalize(fun(e:Ending) (w':World)=>e=.returned (.tuple #[.int .i64 r,.int .i64 0])∧w'=w)=Post at*;go_enter Tryz.func129,Tryz.ntmps129;go_wp2_with (go_at_call 154;refine(Ht.out _).mono ?_;rintro e w' ⟨rfl,rfl⟩);exact HP.out
theorem two_any{op:Int}(ho:op=8∨op=19)(a b:Int)(w:World):Calls Tryz.prog 129 #[.int .i64 op,.int .i64 a,.int .i64 b] w fun e w'=>e=.returned (.tuple #[.int .i64 (twoF op a b),.int .i64 0])∧w'=w:=by
 rcases ho with rfl|rfl
 ·exact two_add a b w
 ·exact two_lt a b w
theorem do_const(gs:Nat)(a b n:Int)(A:Value)(w:World):
 Calls Tryz.prog 93 #[.pointer (some ⟨gs,0,none⟩),.int .i64 1,.int .i64 a,.int .i64 b,.int .i64 n,A] w (TwoPost w (.tuple #[avv (false,n),.int .i64 0])):=by
 have HP:=eh (fun w' (h:Below w.heap.size w w')=>(show TwoPost w (.tuple #[avv (false,n),.int .i64 0]) (.returned (.tuple #[avv (false,n),.int .i64 0])) w' from⟨rfl,h⟩));generalize TwoPost w (.tuple #[avv (false,n),.int .i64 0])=Post at*;have hZ:=Blk.new w 83 #[.bool false,.int .i64 0];have hb:=(Below.refl w.heap.size w).alloc (Nat.le_refl _) (.cells #[.bool false,.int .i64 0] 83);go_enter Tryz.func93,Tryz.ntmps93;go_upto_region 3 with(fail);obtain⟨gz,hgz⟩:∃gz,gz=w.heap.size:=⟨_,rfl⟩;rw[←hgz]at hZ⊢;have hzw:w.heap.size≤gz:=by omega
 clear hgz;generalize w.alloc (.cells #[.bool false,.int .i64 0] 83)=w2 at*;have z0:=hZ.at0;have z1:=hZ.at1;have g0:=hZ.frozen 0;have g1:=hZ.frozen 1;have lz:=hZ.lt;go_wp2;have hZ3:=(hZ.set_ 0 (.bool false)).set_ 1 (.int .i64 n);have hb3:=(hb.setCell (p:=⟨gz,0,none⟩) hzw (.bool false)).setCell (p:=⟨gz,1,none⟩) hzw (.int .i64 n);generalize(w2.setCell ⟨gz,0,none⟩ (.bool false)).setCell ⟨gz,1,none⟩ (.int .i64 n)=w3 at*;have q0:w3.cell? ⟨gz,0,none⟩=some (.bool false):=hZ3.cell 0;have q1:w3.cell? ⟨gz,1,none⟩=some (.int .i64 n):=hZ3.cell 1;refine bodyPost_ret (v:=.tuple #[avv (false,n),.int .i64 0]) (by simp[results,Tryz.results93,go_sem,q0,q1]) rfl ?_;exact HP.out w3 hb3
def vcs(l:List (Bool×Int)):List Value:=l.flatMap fun v=>[.bool v.1,.int .i64 v.2]
theorem do_two{op:Int}(ho:op=8∨op=19)(gs ga ca:Nat)(a b n:Int)(r0 r1:Bool)(x y:Int)(w:World)(hA:w.cell? ⟨ga,1,none⟩=some (.int .i64 x)∧w.cell? ⟨ga,3,none⟩=some (.int .i64 y))(hca:2≤ca):
 Calls Tryz.prog 93 #[.pointer (some ⟨gs,0,none⟩),.int .i64 op,.int .i64 a,.int .i64 b,.int .i64 n,.slice (some ⟨ga,0,none⟩) 2 ca] w (TwoPost w (.tuple #[avv (false,twoF op x y),.int .i64 0])):=by
 have HP:=eh (fun w' (h:Below w.heap.size w w')=>(show TwoPost w (.tuple #[avv (false,twoF op x y),.int .i64 0]) (.returned (.tuple #[avv (false,twoF op x y),.int .i64 0])) w' from⟨rfl,h⟩));generalize TwoPost w (.tuple #[avv (false,twoF op x y),.int .i64 0])=Post at*;have hZ:=Blk.new w 83 #[.bool false,.int .i64 0];have hb:=(Below.refl w.heap.size w).alloc (Nat.le_refl _) (.cells #[.bool false,.int .i64 0] 83);have lga:=World.block_lt_of_cell? w ⟨ga,1,none⟩ hA.1;have a1:=(hb.cell (p:=⟨ga,1,none⟩) lga).trans hA.1;have a3:=(hb.cell (p:=⟨ga,3,none⟩) lga).trans hA.2;have la:=Nat.lt_of_lt_of_le lga hb.size;have Ht:=eh (fun W=>two_any ho x y W);obtain⟨r,hr⟩:∃r,r=twoF op x y:=⟨_,rfl⟩;rw[←hr]at Ht HP;clear hr;have g1:(op==1)=false:=by rcases ho with rfl|rfl<;>decide
 have g2:(op==2)=false:=by rcases ho with rfl|rfl<;>decide
 have g3:(op==18)=false:=by rcases ho with rfl|rfl<;>decide
 have g4:(op==21)=false:=by rcases ho with rfl|rfl<;>decide
 have g5:(op==24)=false:=by rcases ho with rfl|rfl<;>decide
 have g6:(op==28)=false:=by rcases ho with rfl|rfl<;>decide
 have g7:(op==27)=false:=by rcases ho with rfl|rfl<;>decide
 have g8:(op==25)=false:=by rcases ho with rfl|rfl<;>decide
 have g9:(op==26)=false:=by rcases ho with rfl|rfl<;>decide
 have g10:(op==31)=false:=by rcases ho with rfl|rfl<;>decide
 have g11:(op==29)=false:=by rcases ho with rfl|rfl<;>decide
 have g12:(op==30)=false:=by rcases ho with rfl|rfl<;>decide
 clear ho hA lga;go_enter Tryz.func93,Tryz.ntmps93;go_upto_region 26 with(fail);clear g1 g2 g3 g4 g5 g6 g7 g8 g9 g10 g11 g12;obtain⟨gz,hgz⟩:∃gz,gz=w.heap.size:=⟨_,rfl⟩;rw[←hgz]at hZ⊢;have hzw:w.heap.size≤gz:=by omega
 clear hgz;generalize w.alloc (.cells #[.bool false,.int .i64 0] 83)=w2 at*;go_quiet ((go_at_call 129;exact Calls.quiet_of_same (Ht.out _)));rename Nat=>q
 have hZ2:Blk (w2.drewN q) gz 83 #[.bool false,.int .i64 0]:=hZ.drewN q;have hb2:=uC hb q;clear hZ hb a1 a3 la;generalize w2.drewN q=w3 at*;have z0:=hZ2.at0;have z1:=hZ2.at1;have g0:=hZ2.frozen 0;have g1:=hZ2.frozen 1;have lz:=hZ2.lt;go_wp2;have hZ3:=(hZ2.set_ 0 (.bool false)).set_ 1 (.int .i64 r);have hb3:=(hb2.setCell (p:=⟨gz,0,none⟩) hzw (.bool false)).setCell (p:=⟨gz,1,none⟩) hzw (.int .i64 r);generalize(w3.setCell ⟨gz,0,none⟩ (.bool false)).setCell ⟨gz,1,none⟩ (.int .i64 r)=w4 at*;have q0:w4.cell? ⟨gz,0,none⟩=some (.bool false):=hZ3.cell 0;have q1:w4.cell? ⟨gz,1,none⟩=some (.int .i64 r):=hZ3.cell 1;refine bodyPost_ret (v:=.tuple #[avv (false,r),.int .i64 0]) (by simp[results,Tryz.results93,go_sem,q0,q1]) rfl ?_;exact HP.out w4 hb3
theorem act_any{w:World}{gr gs:Nat}{k:RC}{x:RX}(h:RAt w gr k x)(hs:k.st=.pointer (some ⟨gs,0,none⟩)){op a b n m pc:Int}{A:Value}{v:Bool×Int}(ho:(op==34)=false∧(op==35)=false)
 (hd:∀W,Below w.heap.size w W→Calls Tryz.prog 93 #[.pointer (some ⟨gs,0,none⟩),.int .i64 op,.int .i64 a,.int .i64 b,.int .i64 n,A] W (TwoPost W (.tuple #[avv v,.int .i64 0]))):
 Calls Tryz.prog 61 #[.pointer (some ⟨gr,0,none⟩),.int .i64 op,.int .i64 a,.int .i64 b,.int .i64 n,A,.int .i64 m,.int .i64 pc] w (TwoPost w (.tuple #[avv v,.bool true])):=by
 have HP:=eh (fun w' (h:Below w.heap.size w w')=>(show TwoPost w (.tuple #[avv v,.bool true]) (.returned (.tuple #[avv v,.bool true])) w' from⟨rfl,h⟩));generalize TwoPost w (.tuple #[avv v,.bool true])=Post at*;have hZ:=Blk.new w 83 #[.bool false,.int .i64 0];have hb:=(Below.refl w.heap.size w).alloc (Nat.le_refl _) (.cells #[.bool false,.int .i64 0] 83);have hA:=h.alloc (.cells #[.bool false,.int .i64 0] 83);have c2:=hA.cell 3;simp at c2;rw[hs]at c2;have lA:=hA.lt;obtain⟨g34,g35⟩:=ho;have Hd:=eh (hd _ hb);obtain⟨v0,v1⟩:=v;clear h hA hs hd;go_enter Tryz.func61,Tryz.ntmps61;go_upto_region 11 with(fail);clear g34 g35;obtain⟨gz,hgz⟩:∃gz,gz=w.heap.size:=⟨_,rfl⟩;rw[←hgz]at hZ⊢;have hzw:w.heap.size≤gz:=by omega
 clear hgz;generalize w.alloc (.cells #[.bool false,.int .i64 0] 83)=w2 at*;go_wp2_with fail;refine Hd.out.mono ?_;rintro e w3 ⟨rfl,hb3⟩;have hZ3:=hZ.below hb3 hZ.lt;have hb4:=hb.trans (hb3.mono hb.size);have hV:=Blk.new w3 83 #[.bool v0,.int .i64 v1];have hZ4:=hZ3.alloc (.cells #[.bool v0,.int .i64 v1] 83);have hb5:=hb4.alloc hb4.size (.cells #[.bool v0,.int .i64 v1] 83);clear hZ hb hb3 hZ3 hb4 Hd c2 lA;go_upto_region 12 with(fail);obtain⟨gy,hgy⟩:∃gy,gy=w3.heap.size:=⟨_,rfl⟩;rw[←hgy]at hV⊢;clear hgy;generalize w3.alloc (.cells #[.bool v0,.int .i64 v1] 83)=w5 at*;have y0:=hV.at0;have y1:=hV.at1;have ly:=hV.lt;have z0:=hZ4.at0;have z1:=hZ4.at1;have g0:=hZ4.frozen 0;have g1:=hZ4.frozen 1;have lz:=hZ4.lt;go_wp2;have hZ5:=(hZ4.set_ 0 (.bool v0)).set_ 1 (.int .i64 v1);have hb6:=(hb5.setCell (p:=⟨gz,0,none⟩) hzw (.bool v0)).setCell (p:=⟨gz,1,none⟩) hzw (.int .i64 v1);generalize(w5.setCell ⟨gz,0,none⟩ (.bool v0)).setCell ⟨gz,1,none⟩ (.int .i64 v1)=w6 at*;have q0:w6.cell? ⟨gz,0,none⟩=some (.bool v0):=hZ5.cell 0;have q1:w6.cell? ⟨gz,1,none⟩=some (.int .i64 v1):=hZ5.cell 1;refine bodyPost_ret (v:=.tuple #[avv (v0,v1),.bool true]) (by simp[results,Tryz.results61,go_sem,q0,q1]) rfl ?_;exact HP.out w6 hb6
def nextX(ops:Array Oper)(listed:Array Bool):Option (Nat×Tmp):=((List.range ops.size).find? fun i=> !listed.getD i true).bind fun i=>((ops[i]?).bind (·.dst)).map fun d=>(i,d)
theorem nextX_dst{ops:Array Oper}{listed:Array Bool}{i:Nat}{d:Tmp}(h:nextX ops listed=some (i,d)):(ops[i]?).map (·.dst)=some (some d):=by
 unfold nextX at h;rw[Option.bind_eq_some_iff]at h;obtain⟨j,-,h⟩:=h;rw[Option.map_eq_some_iff]at h;obtain⟨e,h1,h2⟩:=h;cases h2;rw[Option.bind_eq_some_iff]at h1;obtain⟨o,h3,h4⟩:=h1;rw[h3];simp[h4]
theorem uO{P:Program}{ops:Array Oper}{Q:Exit→Act→World→Prop}{md:Region.Mode}{S:World→Prop}{J:Nat→Bool}{fuel:Nat}{listed:Array Bool}{a:Act}{w:World}{oi:Oper}{v:Value}{i:Nat}{d:Tmp}
 (hn:nextX ops listed=some (i,d))(ho:ops[i]? =some oi)(hS:S w)(hy:YieldsIf P ops S oi v a)(h:wpAnyJ P md ops Q S J fuel (listed.setIfInBounds i true) (a.put (some d) v) w)
 (hs:Region.noSelect ops=true:=by kernel_rfl)(hf:Region.free md ops listed i=true:=by kernel_rfl)(hr:(Region.ready md ops listed).contains i=true:=by kernel_rfl)(hJ:waitsJ md ops J i=true:=by kernel_rfl)(hJi:J i=true:=by kernel_rfl)
 (hQ:∀c a w,Q (.panic c) (a.put (some d) v) w→Q (.panic c) a w:=by exact fun _ _ _ h=>h):wpAnyJ P md ops Q S J (fuel+1) listed a w:=
 uB i d ho hS hy h (nextX_dst hn) hs hf hr hJ hJi hQ
def headX(ops:Array Oper)(listed:Array Bool):Option Nat:=(List.range ops.size).find? fun i=> !listed.getD i true
theorem uP{P:Program}{ops:Array Oper}{Q:Exit→Act→World→Prop}{md:Region.Mode}{S:World→Prop}{J:Nat→Bool}{fuel:Nat}{listed:Array Bool}{a:Act}{w:World}{oi:Oper}{i:Nat}
 (_hn:headX ops listed=some i)(ho:ops[i]? =some oi)
 (h:∀K:Act→World→Prop,Hid (∀a w,(J i=true→S w)→wpAnyJ P md ops Q S J fuel (listed.setIfInBounds i true) a w→K a w)→if Region.wanted oi (yielded ops a.tmps)=true then Oper.wp P oi a w K Q else K (a.put oi.dst undef) w)
 (hr:Region.ready md ops listed=[i]:=by kernel_rfl):wpAnyJ P md ops Q S J (fuel+1) listed a w:=uN i ho h hr
abbrev AV:=Bool×Int
structure BC where
 An:Option Addr
 cn:Nat
 Ab:Option Addr
 cb:Nat
 As:Option Addr
 cs:Nat
 args:Value
 gvl:Nat
abbrev bcs(f:Fn)(b:BC):Array Value:=#[.int .i64 f.mth,.int .i64 f.entry,.slice b.An f.nodes.length b.cn,.slice b.Ab f.blocks.length b.cb,.slice b.As f.states.length b.cs,b.args,.slice (some ⟨b.gvl,0,none⟩) f.nodes.length f.nodes.length]
structure EvAt(w:World)(S:Nat→Prop)(gr gs gdn gb:Nat)(k:RC)(x:RX)(f:Fn)(b:BC)(vals:List AV):Prop where
 r:RAt w gr k x
 st:k.st=.pointer (some ⟨gs,0,none⟩)
 dn:k.dn=.map (some gdn)
 map:VMap Tryz.prog w 3 gdn 0 (fun _=>none)
 bd:Blk w gb 159 (bcs f b)
 v:Blk w b.gvl 83 ⟨vcs vals⟩
 len:vals.length=f.nodes.length
 fn:RdF w S b.An b.Ab b.As f
 lt:∀q,S q→q<w.heap.size∧q≠gr∧q≠b.gvl
section
variable {w w':World} {S:Nat→Prop} {gr gs gdn gb:Nat} {k:RC} {x x':RX} {f:Fn} {b:BC} {vals vals':List AV}
theorem EvAt.below(h:EvAt w S gr gs gdn gb k x f b vals)(hb:Below w.heap.size w w'):EvAt w' S gr gs gdn gb k x f b vals:=
 ⟨h.r.below hb h.r.lt,h.st,h.dn,h.map.below hb h.map.lt,h.bd.below hb h.bd.lt,h.v.below hb h.v.lt,h.len,h.fn.keep (Kept.of_below hb (fun q hq=>(h.lt q hq).1)),fun q hq=>⟨Nat.lt_of_lt_of_le (h.lt q hq).1 hb.size,(h.lt q hq).2⟩⟩
theorem EvAt.run(h:EvAt w S gr gs gdn gb k x f b vals)(hr:RAt w' gr k x')(hg:w.grownBy w' (some gr)):EvAt w' S gr gs gdn gb k x' f b vals:=
 ⟨hr,h.st,h.dn,h.map.kept hg (fun e=>h.map.ne_blk h.r (Option.some.inj e)),h.bd.grown hg (fun e=>Blk.ne_ h.bd h.r (by decide) (Option.some.inj e)),h.v.grown hg (fun e=>Blk.ne_ h.v h.r (by decide) (Option.some.inj e)),h.len,h.fn.keep (Kept.grown (Kept.refl _ _) hg (fun q hq=>(h.lt q hq).1) (fun q hq e=>(h.lt q hq).2.1 (Option.some.inj e))),fun q hq=>⟨Nat.lt_of_lt_of_le (h.lt q hq).1 hg.size,(h.lt q hq).2⟩⟩
theorem EvAt.put(h:EvAt w S gr gs gdn gb k x f b vals)(hv:Blk w' b.gvl 83 ⟨vcs vals'⟩)(hl:vals'.length=vals.length)(hg:w.grownBy w' (some b.gvl)):EvAt w' S gr gs gdn gb k x f b vals':=
 ⟨h.r.grown hg (fun e=>Blk.ne_ h.r h.v (by decide) (Option.some.inj e)),h.st,h.dn,h.map.kept hg (fun e=>h.map.ne_blk h.v (Option.some.inj e)),h.bd.grown hg (fun e=>Blk.ne_ h.bd h.v (by decide) (Option.some.inj e)),hv,hl.trans h.len,h.fn.keep (Kept.grown (Kept.refl _ _) hg (fun q hq=>(h.lt q hq).1) (fun q hq e=>(h.lt q hq).2.2 (Option.some.inj e))),fun q hq=>⟨Nat.lt_of_lt_of_le (h.lt q hq).1 hg.size,(h.lt q hq).2⟩⟩
theorem EvAt.far{g:Nat}{t:TypeId}{cs:Array Value}(h:EvAt w S gr gs gdn gb k x f b vals)(hX:Blk w g t cs)(ht:t≠79∧t≠159)(hv:g≠b.gvl)(hS:∀q,S q→q≠g)(hg:w.grownBy w' (some g)):EvAt w' S gr gs gdn gb k x f b vals:=
 ⟨h.r.grown hg (fun e=>Blk.ne_ h.r hX (Ne.symm ht.1) (Option.some.inj e)),h.st,h.dn,h.map.kept hg (fun e=>h.map.ne_blk hX (Option.some.inj e)),h.bd.grown hg (fun e=>Blk.ne_ h.bd hX (Ne.symm ht.2) (Option.some.inj e)),h.v.grown hg (fun e=>hv (Option.some.inj e).symm),h.len,h.fn.keep (Kept.grown (Kept.refl _ _) hg (fun q hq=>(h.lt q hq).1) (fun q hq e=>hS q hq (Option.some.inj e))),fun q hq=>⟨Nat.lt_of_lt_of_le (h.lt q hq).1 hg.size,(h.lt q hq).2⟩⟩
def set5(w:World)(g:Nat)(a b c d e:Value):World:=((((w.setCell ⟨g,0,none⟩ a).setCell ⟨g,1,none⟩ b).setCell ⟨g,2,none⟩ c).setCell ⟨g,3,none⟩ d).setCell ⟨g,4,none⟩ e
theorem Blk.set5{g:Nat}{T:TypeId}{x0 x1 x2 x3 x4 a b c d e:Value}(h:Blk w g T #[x0,x1,x2,x3,x4]):Blk (set5 w g a b c d e) g T #[a,b,c,d,e]:=by
 have:=((((h.set_ 0 a).set_ 1 b).set_ 2 c).set_ 3 d).set_ 4 e;simpa[Proofs.YtgbgbmdiomhfiaaGreatDoor.set5]using this
theorem uW(w:World)(r:Option Nat):w.grownBy w.drew r:=⟨rfl,rfl,rfl,Nat.le_refl _,fun _ _ _=>rfl⟩
theorem grown_set5(g:Nat)(a b c d e:Value):w.grownBy (set5 w g a b c d e) (some g):=by
 unfold set5;exact((((uA w ⟨g,0,none⟩ a).trans (uA _ ⟨g,1,none⟩ b)).trans (uA _ ⟨g,2,none⟩ c)).trans (uA _ ⟨g,3,none⟩ d)).trans (uA _ ⟨g,4,none⟩ e)
theorem vcs_len:∀l:List AV,(vcs l).length=l.length*2
 | []=>rfl
 |v::l=>by have:=vcs_len l;simp only[vcs,List.flatMap_cons,List.length_append,List.length_cons,List.length_nil]at this⊢;omega
theorem vcs_at(l:List AV)(k:Nat)(hk:k<l.length):(vcs l)[k*2]? =some (.bool (l.getD k default).1)∧(vcs l)[k*2+1]? =some (.int .i64 (l.getD k default).2):=by
 have hz:l[k]? =some (l.getD k default):=by simp[hk]
 have h0:=flat_at (fun v:AV=>[Value.bool v.1,Value.int .i64 v.2]) 2 (fun _=>rfl) l k 0 _ hz (by omega);have h1:=flat_at (fun v:AV=>[Value.bool v.1,Value.int .i64 v.2]) 2 (fun _=>rfl) l k 1 _ hz (by omega);exact⟨h0,h1⟩
theorem vrow_put{g:Nat}{l:List AV}(h:Blk w g 83 ⟨vcs l⟩){i:Nat}(hi:i<l.length)(v:AV):Blk ((w.setCell ⟨g,i*2,none⟩ (.bool v.1)).setCell ⟨g,i*2+1,none⟩ (.int .i64 v.2)) g 83 ⟨vcs (l.set i v)⟩:=by
 have h2:=(h.set_ (i*2) (.bool v.1)).set_ (i*2+1) (.int .i64 v.2);have e:∀(l:List AV) (i:Nat),i<l.length→((vcs l).set (i*2) (.bool v.1)).set (i*2+1) (.int .i64 v.2)=vcs (l.set i v):=by
  intro l;induction l with
  |nil=>intro i hi;simp at hi
  |cons a l ih=>
   intro i hi;cases i with
   |zero=>rfl
   |succ i=>
    have:=ih i (by simpa using hi);rw[show(i+1)*2=i*2+1+1 by omega];simp only[vcs,List.flatMap_cons,List.cons_append,List.nil_append,List.set_cons_succ]at this⊢;rw[this]
 have e2:=e l i hi;simp only[List.setIfInBounds_toArray]at h2;rw[e2]at h2;exact h2
theorem vcs_app(a b:List AV):vcs (a++b)=vcs a++vcs b:=by simp[vcs]
theorem vrow_at{g:Nat}{l:List AV}(h:Blk w g 83 ⟨vcs l⟩){k:Nat}(hk:k<l.length):w.cell? ⟨g,k*2,none⟩=some (.bool (l.getD k default).1)∧w.cell? ⟨g,k*2+1,none⟩=some (.int .i64 (l.getD k default).2):=by
 rw[h.cell,h.cell];have:=vcs_at l k hk;simpa using this
end
def argsV(vals:List AV)(l:List Int):List AV:=l.map fun a=>vals.getD a.toNat default
theorem infoAv:(Tryz.prog.info? 83).map (fun i=>(i.zero,i.size,i.bytes))=some (some (.agg #[.bool false,.int .i64 0]),2,16):=by kernel_rfl
structure OnV where
 blk:Int:=0
 over:Bool:=false
 val:AV:=(false,0)
 is:Bool:=false
abbrev onv(o:OnV):Value:=.agg #[.int .i64 o.blk,.bool o.over,.bool o.val.1,.int .i64 o.val.2,.bool o.is]
def NodePost(w:World)(S:Nat→Prop)(gr gs gdn gb:Nat)(k:RC)(x:RX)(f:Fn)(b:BC)(vals:List AV)(o:OnV)(e:Ending)(w':World):Prop:=
 e=.returned (onv o)∧EvAt w' S gr gs gdn gb k x f b vals∧KX (fun q=>q=gr∨q=b.gvl) w w'
structure NodeEnd(w0 w7:World)(S:Nat→Prop)(gr gs gdn gb go:Nat)(k:RC)(x:RX)(f:Fn)(b:BC)(vals:List AV)(o:OnV):Prop where
 e:EvAt w7 S gr gs gdn gb k x f b vals
 kx:KX (fun q=>q=gr∨q=b.gvl) w0 w7
 q0:w7.cell? ⟨go,0,none⟩=some (.int .i64 o.blk)
 q1:w7.cell? ⟨go,1,none⟩=some (.bool o.over)
 q2:w7.cell? ⟨go,2,none⟩=some (.bool o.val.1)
 q3:w7.cell? ⟨go,3,none⟩=some (.int .i64 o.val.2)
 q4:w7.cell? ⟨go,4,none⟩=some (.bool o.is)
theorem node_end{w0 w6:World}{S:Nat→Prop}{gr gs gdn gb go:Nat}{k:RC}{x:RX}{f:Fn}{b:BC}{vals:List AV}{x0 x1 x2 x3 x4:Value}(hE:EvAt w6 S gr gs gdn gb k x f b vals)(hO:Blk w6 go 162 #[x0,x1,x2,x3,x4])(hK:KX (fun q=>q=gr∨q=b.gvl) w0 w6)(hgo:w0.heap.size≤go)(hS:∀q,S q→q<w0.heap.size)(o:OnV):
 ∃w7,w7=set5 w6 go (.int .i64 o.blk) (.bool o.over) (.bool o.val.1) (.int .i64 o.val.2) (.bool o.is)∧NodeEnd w0 w7 S gr gs gdn gb go k x f b vals o:=by
 have hO7:=hO.set5 (a:=.int .i64 o.blk) (b:=.bool o.over) (c:=.bool o.val.1) (d:=.int .i64 o.val.2) (e:=.bool o.is);have hg:=grown_set5 (w:=w6) go (.int .i64 o.blk) (.bool o.over) (.bool o.val.1) (.int .i64 o.val.2) (.bool o.is);exact⟨_,rfl,hE.far hO (by decide) (fun e=>Blk.ne_ hO hE.v (by decide) e) (fun q hq e=>by have:=hS q hq;omega) hg,hK.new hg (fun g e hl=>by have:=Option.some.inj e;omega),hO7.cell 0,hO7.cell 1,hO7.cell 2,hO7.cell 3,hO7.cell 4⟩
theorem clone_u64(A:Option Addr)(n c:Nat)(xs:List Value)(w:World)(h:Rd w w.heap.size 1 A n xs)(h0:A=none→n=0)(hn:n≤1000000)(h1:∀u∈xs,u.oneCell'=true):
 Calls Tryz.prog 187 #[.slice A n c] w (ClonePost w 257 1 n xs):=by
 have q:∀(w:World) (a:Option Addr) (n c n' c':Nat),(binOp .eql 294 (.slice a n c) (.slice none n' c')).run Tryz.prog w=.ok (.bool a.isNone) w:=fun w a n c n' c'=>Lib.run_eql_slice_nil w _ _ a n c n' c' Tryz.underlying294
 cases A with
 |none=>
  obtain rfl:=h0 rfl;have hx:xs=[]:=List.eq_nil_of_length_eq_zero (by simpa using h.1);go_enter Tryz.func187,Tryz.ntmps187;go_wp2;go_ret;subst hx;exact⟨none,0,rfl,World.ownsRow_nil _ _ _ _,Below.refl _ _⟩
 |some a=>
  obtain⟨i0,hi,hz0,hz1,hz2⟩:=info_parts infoU64;have hsp:0<n→a.spot=none:=fun hn0=>by
   obtain⟨b,off,e,_⟩:=h.2 hn0;cases e;rfl
  have hc:∀j u,xs[j]? =some u→w.cell? (a.add j)=some u:=fun j u hu=>by
   by_cases hn0:0<n
   ·obtain⟨b,off,e,_,hcc⟩:=h.2 hn0;cases e;have:=hcc j u hu
    rwa [show(⟨b,off,none⟩:Addr).add j=⟨b,off+j,none⟩from Go.WideShapes.add_plain b off j]
   ·have :xs.length=0:=by have:=h.1;omega
    have:=(List.getElem?_eq_some_iff.1 hu).1;omega
  have Hc:=eh hc;have Hl:=eh h.1;have H1:=eh h1;clear hc h h1 hsp h0;go_enter Tryz.func187,Tryz.ntmps187;go_wp2_with (at_builtin
                                                                                                                      refine wpList_append_own_at _ rfl _ _ 294 rfl w.heap.size 257 i0 _ 1 8 Tryz.underlying294 hi hz0 hz1 hz2 rfl (by decide) _ 0 [] rfl (World.ownsRow_made w #[] 0 (Nat.le_refl _) (Nat.zero_le _) rfl) a n c xs rfl Hl.out (fun j u hu=>by first|exact Hc.out j u hu|(rw[World.cell?_alloc_lt];exact Hc.out j u hu;exact World.block_lt_of_cell? w _ (Hc.out j u hu))) H1.out (by unfold maxLen;omega) (by omega) (by simp) ?_;intro v' w1 hown hg _ _;simp only[Nat.zero_add,List.nil_append]at hown;obtain⟨A',c',rfl⟩:=own_slice hown)
  go_ret;exact⟨A',c',rfl,hown,((Below.refl w.heap.size w).alloc (Nat.le_refl _) _).grown hg (by simp) (fun k hk=>by
   have e:some w.heap.size=some k:=hk;cases e;exact Nat.le_refl _)⟩
theorem SetW.rd{w:World}{g gw n x:Nat}(h:SetW w g gw n x):∃A c,Blk w g 296 #[.int .i64 n,.slice A (if n=0 then 0 else 1) c]∧Rd w w.heap.size 1 A (if n=0 then 0 else 1) (if n=0 then[]else[.int .u64 x]):=by
 obtain⟨-,-,A,c,hb,hw⟩:=h;refine⟨A,c,hb,?_⟩
 by_cases e:n=0
 ·rw[if_pos e,if_pos e];exact Rd.nil _ _ _ _
 ·rw[if_neg e,if_neg e];obtain⟨rfl,cs,hc⟩:=hw (by omega);exact⟨rfl,fun _=>⟨gw,0,rfl,hc.lt,fun j u hu=>by
   cases j with
   |zero=>cases hu;exact hc.at0
   |succ j=>simp at hu⟩⟩
def CloPost(w:World)(n x:Nat)(e:Ending)(w':World):Prop:=∃g gw,e=.returned (.pointer (some ⟨g,0,none⟩))∧SetW w' g gw n x∧w.heap.size≤g∧(0<n→w.heap.size≤gw)∧Below w.heap.size w w'
theorem sclone_any{w:World}{g gw n x:Nat}(hs:SetW w g gw n x):Calls Tryz.prog 179 #[.pointer (some ⟨g,0,none⟩)] w (CloPost w n x):=by
 have h1:=hs.1;have h2:=hs.2.1;obtain⟨A,c,hb,hr⟩:=hs.rd;have h0:A=none→(if n=0 then 0 else 1:Nat)=0:=fun e=>by
  by_cases hn:n=0
  ·simp[hn]
  ·have:=(hs.2.2.choose_spec.choose_spec.2 (by omega));obtain⟨_,-,A',c',hb',hw'⟩:=hs;obtain⟨e2,_⟩:=hw' (by omega);unfold Blk at hb hb';rw[hb]at hb';simp at hb';rw[←hb'.1]at e2;rw[e]at e2;cases e2
 obtain⟨m,hm⟩:∃m,m=(if n=0 then 0 else 1:Nat):=⟨_,rfl⟩;have hm1:m≤1:=by rw[hm];split<;>omega
 have hl:(if n=0 then[]else[Value.int .u64 x]:List Value).length=m:=by rw[hm];split<;>rfl
 have HP:=eh (fun w1 A' c' (ho:w1.ownsRow w.heap.size 257 1 (.slice A' m c') m (if n=0 then[]else[.int .u64 x])) (hb1:Below w.heap.size w w1)=>
  (show CloPost w n x (.returned (.pointer (some ⟨w1.heap.size,0,none⟩))) (w1.alloc (.cells #[.int .i64 n,.slice A' m c'] 296))from by
   have hB:=hb1.alloc hb1.size (.cells #[.int .i64 n,.slice A' m c'] 296)
   by_cases e:n=0
   ·exact⟨w1.heap.size,0,rfl,⟨h1,h2,A',c',by rw[←hm];exact Blk.new _ _ _,fun h=>by omega⟩,hb1.size,fun h=>by omega,hB⟩
   ·rw[if_neg e]at ho;rcases ho.2 with⟨hv,hm0⟩|⟨g',cap,cur,hv,q1,q2,q3,q4,q5,q6⟩
    ·rw[hm,if_neg e]at hm0;omega
    ·cases hv;refine⟨w1.heap.size,g',rfl,⟨h1,h2,some ⟨g',0,none⟩,c',by rw[←hm];exact Blk.new _ _ _,fun _=>⟨rfl,?_⟩⟩,hb1.size,fun _=>q1,hB⟩;obtain⟨cur⟩:=cur;rw[hm,if_neg e]at q6;cases cur with
     |nil=>simp at q6
     |cons y ys=>
      simp at q6;subst q6;exact⟨ys,Blk.alloc q2 _⟩))
 rw[←hm]at h0 hr hb;have hcl:=fun W (hW:Rd W W.heap.size 1 A m (if n=0 then[]else[.int .u64 x]))=>clone_u64 A m c _ W hW h0 (by omega) (fun u hu=>by
  by_cases e:n=0
  ·simp[e]at hu
  ·simp[e]at hu;subst hu;rfl)
 have Hcl:=eh hcl;generalize CloPost w n x=Post at*;have Hr:=eh hr;have HB:=eh hb;clear hs hcl hm hl h0 h1 h2 hr;generalize(if n=0 then[]else[Value.int .u64 x]:List Value)=xs at*;go_enter Tryz.func179,Tryz.ntmps179;go_upto_region 1 with(fail);refine uE (S:=fun W=>W.cell? ⟨g,0,none⟩=some (.int .i64 n)∧W.cell? ⟨g,1,none⟩=some (.slice A m c)) (fun _=>true) (by kernel_rfl) ⟨hb.at0,hb.at1⟩ (fun HS=>?_);clear hb
 iterate 8 (refine uO rfl rfl HS (.inl ⟨rfl,fun W hW=>by obtain⟨h0,h1⟩:=hW;go_simp;rfl⟩) ?_;simp only[pS])
 refine uP rfl rfl (fun K HK=>?_);go_simp;refine(Hcl.out w.drew Hr.out).mono ?_;rintro e w1 ⟨A',c',rfl,ho,hb1'⟩;have hb1:Below w.heap.size w w1:=⟨hb1'.os,hb1'.tape,hb1'.output,hb1'.size,hb1'.block⟩;clear hb1';have hB1:=HB.out.below hb1 HB.out.lt;refine HK.out _ _ (fun _=>⟨hB1.at0,hB1.at1⟩) ?_;clear HK HS;simp only[pS];refine uO rfl rfl ⟨hB1.at0,hB1.at1⟩ (.inl ⟨rfl,fun W hW=>by go_simp;rfl⟩) ?_;simp only[pS];refine uP rfl rfl (fun K HK=>?_);go_simp;have hB2:=hB1.alloc (.cells #[.int .i64 n,.slice A' m c'] 296);refine HK.out _ _ (fun _=>⟨hB2.at0,hB2.at1⟩) ?_;simp only[pS];refine uO rfl rfl ⟨hB2.at0,hB2.at1⟩ (.inl ⟨rfl,fun W hW=>by go_simp;rfl⟩) ?_;simp only[pS];refine uD (by kernel_rfl) ?_ _;go_wp2;exact HP.out _ _ _ ho hb1
attribute [local go_sem] Oper.semAt_some
def Tz(w:World):Prop:=13<w.heap.size∧TabAt 13 Lib.deBruijn64tab w
theorem Tz.below{w w':World}{B:Nat}(h:Tz w)(hb:Below B w w')(hB:13<B):Tz w':=⟨Nat.lt_of_lt_of_le h.1 hb.size,fun j hj=>(hb.cell (p:=⟨_,j,none⟩) hB).trans (h.2 j hj)⟩
theorem Tz.grown{w w':World}{g:Nat}(h:Tz w)(hb:w.grownBy w' (some g))(hB:13≠g):Tz w':=⟨Nat.lt_of_lt_of_le h.1 hb.size,fun j hj=>(World.cell?_of_block (a:=⟨_,j,none⟩) (hb.block _ h.1 (fun e=>hB (Option.some.inj e)))).trans (h.2 j hj)⟩
theorem tz_core(x k idx:Nat)(w:World)(hx0:((x:Int)==0)=false)(key:IntKind.u64.wrap (bits BinOp.and IntKind.u64 (x:Int) (IntKind.u64.wrap (-(x:Int)))*285870213051353865)/288230376151711744=(idx:Int))
 (hi:idx<64)(hk:k<64)(hcell:w.cell? ⟨13,idx,none⟩=some (.int .u8 k)):
 Calls Tryz.prog 178 #[.int .u64 x] w fun e w'=>e=.returned (.int .i64 k)∧w'=w:=by
 go_enter Tryz.func178,Tryz.ntmps178;go_wp2_with (simp only[key]);go_ret;exact⟨rfl,rfl⟩
theorem tz_any{x:Nat}(hx:x<4096)(h0:x≠0){w:World}(hT:Tz w):Calls Tryz.prog 178 #[.int .u64 x] w fun e w'=>e=.returned (.int .i64 (Lib.ctz 64 x))∧w'=w:=by
 have hx2:x<18446744073709551616:=Nat.lt_trans hx (by decide);obtain⟨hlow,hk⟩:=Lib.lowest_bit 64 x h0 hx2;obtain⟨hi,htab⟩:=Lib.deBruijn64_at _ hk;have hcell:=hT.2 _ hi;rw[htab]at hcell;exact tz_core x _ _ w (by simp;omega) (tz64_key x _ hx2 h0 hlow) hi hk hcell
theorem each_any(g:Nat)(w:World):Calls Tryz.prog 166 #[.pointer (some ⟨g,0,none⟩)] w fun e w'=>e=.returned (.func (.func 177) #[] #[.pointer (some ⟨w.heap.size,0,none⟩)])∧w'=w.alloc (.cells #[.pointer (some ⟨g,0,none⟩)] 263):=by
 have hmf:∀(fn:Go.Fn) (first cap:Array Value) (w:World),(Instr.makeFunc fn first cap).run Tryz.prog w=.ok (.func fn first cap) w:=fun _ _ _ _=>rfl
 go_enter Tryz.func166,Tryz.ntmps166;go_wp2;go_ret;exact⟨rfl,rfl⟩
theorem each1_in{m:Nat}(hm:1≤m)(l Bn:Nat){g gw n x:Nat}(J Jx:List Nat→World→Prop)
 (hY:∀pre (y:Nat) W,J pre W→pre.length<12→YieldAt Fence.wide (m-1) Tryz.prog l #[.int .i64 y] W fun e W'=>(e=.returned (.bool true)∧J (pre++[y]) W'∧Below (13+1) W W')∨(e=.returned (.bool false)∧Jx (pre++[y]) W'))
 (W:World)(hBn:W.cell? ⟨Bn,0,none⟩=some (.pointer (some ⟨g,0,none⟩)))(hs:SetW W g gw n x)(hT:Tz W)(h0:J [] W):
 CallsIn Fence.wide m Tryz.prog 177 #[.func (.yield l) #[] #[],.pointer (some ⟨Bn,0,none⟩)] W fun e W'=>(∃v,e=.returned v)∧((∃ys,ys=bl x∧J ys W')∨(∃pre,pre<+:bl x∧Jx pre W')):=by
 obtain⟨hn,hx,A,c,hb,hw⟩:=hs;have hx2:=lt12 hn hx;have c1:=hb.at1;have lg:=hb.lt;have HT:=eh hT;have HY:=eh hY;clear hb hT hY;refine callsIn_of_wp Tryz.func177 rfl trivial ?_ rfl;simp only[Tryz.ntmps177,List.size_toArray,List.length_cons,List.length_nil,Nat.reduceAdd,Nat.reduceSub,Array.replicate_succ,Array.replicate_zero,List.push_toArray,List.append_toArray,List.nil_append,List.cons_append]
 by_cases e:n=0
 ·subst e;simp at hx;subst hx;simp only[if_true]at c1
  gi_wp2
  gi_loopw [10] (fun v wr=>v=.int .i64 0∧J [] wr) (fun _ _=>0)
  case atStart=>exact⟨rfl,h0⟩
  case round=>
   obtain⟨rfl,hJ⟩:=hrel
   gi_wp2
   go_end0;exact⟨⟨_,rfl⟩,.inl ⟨_,rfl,by rw[bl_zero];exact hJ⟩⟩
 ·obtain⟨rfl,cs,hw⟩:=hw (by omega);rw[if_neg e]at c1;have c0:=hw.at0;have l0:=hw.lt;clear hw e
  gi_wp2
  gi_loopw [10] (fun v wr=>v=.int .i64 0∧wr=W∨v=.int .i64 1∧J (bl x) wr) (fun v _=>1-(intOf v).toNat)
  case atStart=>exact .inl ⟨rfl,rfl⟩
  case round=>
   obtain⟨rfl,rfl⟩|⟨rfl,hJ⟩:=hrel
   ·gi_wp2
    gi_loopw [4] (fun v wx=>∃(pre:List Nat) (y:Nat),v=.int .u64 y∧y<4096∧Hid (bl x=pre++bl y)∧J pre wx∧Hid (Below (13+1) wr wx)) (fun v _=>(intOf v).toNat)
    case atStart=>exact⟨[],x,rfl,hx2,eh rfl,h0,eh (Below.refl _ _)⟩
    case round=>
     obtain⟨pre,y,rfl,hy2,Hpre,hJ,HB⟩:=hrel
     by_cases hy0:y=0
     ·subst hy0;have e:pre=bl x:=by have:=Hpre.out;rw[bl_zero,List.append_nil]at this;exact this.symm
      subst e;clear Hpre
      gi_wp2
      go_roundw
      case rel=>exact .inr ⟨rfl,hJ⟩
      case measure=>simp[intOf]
     ·obtain⟨e1,e2⟩:=bl_step hy2 hy0;have hlen:pre.length<12:=by
       have h1:=bl_len x;have:=Hpre.out;rw[this,e1]at h1;simp at h1;omega
      have Htz:=eh (tz_any hy2 hy0 (HT.out.below HB.out (by decide)));obtain⟨fn,tmps,assign,body,hy,hR⟩:=HY.out pre (Lib.ctz 64 y) wr hJ hlen;have Hpre2:=eh (show bl x=(pre++[Lib.ctz 64 y])++bl (y&&& (y-1)) by rw[Hpre.out,e1];simp);have hy64:y<18446744073709551616:=Nat.lt_trans hy2 (by decide);have hct:=(Lib.lowest_bit 64 y hy0 hy64).2;clear hy64;have hwr:wrap64 ((Lib.ctz 64 y:Nat):Int)=(Lib.ctz 64 y:Nat):=by unfold wrap64;omega
      have hsub:IntKind.u64.wrap ((y:Int)-1)=((y-1:Nat):Int):=by rw[IntKind.wrap_u64];omega
      have hand:bits BinOp.and IntKind.u64 (y:Int) ((y-1:Nat):Int)=((y&&& (y-1):Nat):Int):=bits_and_u64_nat y (y-1) (by omega) (by omega);have E2:=eh e2;have Hy2:=eh hy2;clear e1 e2 hct hlen
      gi_wp2_with (refine⟨trivial,?_⟩;refine(callsIn_wide.2 Htz.out).mono ?_;rintro e w' ⟨rfl,rfl⟩)
      refine hR.mono ?_
      rintro e W3 (⟨rfl,hJ3,hk3⟩|⟨rfl,hJx3⟩)
      ·have HB3:=eh (HB.out.trans hk3)
       gi_wp2
       go_roundw
       case rel=>exact⟨_,_,rfl,Nat.lt_trans E2.out Hy2.out,Hpre2,hJ3,HB3⟩
       case measure=>simp[intOf];exact E2.out
      ·gi_wp2
       refine bodyPost_ret (results_none rfl _ _ _) rfl ?_;exact⟨⟨_,rfl⟩,.inr ⟨_,⟨_,Hpre2.out.symm⟩,hJx3⟩⟩
   ·gi_wp2
    go_end0;exact⟨⟨_,rfl⟩,.inl ⟨_,rfl,hJ⟩⟩
end Go.Proofs.YtgbgbmdiomhfiaaGreatDoor
namespace Go.Proofs.YtgbgbmdiomhfiaaGreatDoor
open Go.RowKit Go.Maps
attribute [local go_sem] Oper.semAt_some
theorem gNew{w w':World}{row:Option Nat}(h:w.grownBy w' row){p:Addr}(hp:w.heap.size≤p.block)(v:Value):w.grownBy (w'.setCell p v) row:=
 ⟨h.os,h.tape,h.output,by simpa using h.size,fun k hk hne=>(Below.heap_setCell w' p v k (by omega)).trans (h.block k hk hne)⟩
theorem belowG{w w':World}{B g:Nat}(h:w.grownBy w' (some g))(hB:B≤g)(hg:g<w.heap.size):Below B w w':=
 ⟨h.os,h.tape,h.output,h.size,fun k hk=>h.block k (by omega) (fun e=>by cases e;omega)⟩
def JoinPost(w:World)(g gw n x y:Nat)(e:Ending)(w':World):Prop:=e=.returned (.bool (decide (x|||y≠x)))∧SetW w' g gw n (x|||y)∧w.grownBy w' (some gw)
theorem sjoin_any{w:World}{g gw t tw n x y:Nat}(hs:SetW w g gw n x)(ht:SetW w t tw n y)(hw:(13+1)≤gw∧gw<w.heap.size)(hT:Tz w):Calls Tryz.prog 168 #[.pointer (some ⟨g,0,none⟩),.pointer (some ⟨t,0,none⟩)] w (JoinPost w g gw n x y):=by
 have HS:=eh hs;have HU:=eh ht;have HT:=eh hT;have lg:=hs.lt;have l24:=hT.1;clear hs hT ht;refine(callsIn_wide (n:=3)).1 ?_;refine callsIn_of_wp_marks Tryz.func168 rfl trivial ?_ rfl;simp only[Tryz.ntmps168,List.size_toArray,List.length_cons,List.length_nil,Nat.reduceAdd,Nat.reduceSub,Array.replicate_succ,Array.replicate_zero,List.push_toArray,List.append_toArray,List.nil_append,List.cons_append];have b0:=(Boxed.new w 263 (.pointer (some ⟨g,0,none⟩))).alloc (.cells #[.bool false] 4);have b1:=Boxed.new (w.alloc (.cells #[.pointer (some ⟨g,0,none⟩)] 263)) 4 (.bool false);rw[World.size_alloc]at b1;have hB2:Below w.heap.size w ((w.alloc (.cells #[.pointer (some ⟨g,0,none⟩)] 263)).alloc (.cells #[.bool false] 4)):=((Below.refl _ w).alloc (Nat.le_refl _) _).alloc (by simp) _
 gi_wp2_with fail
 obtain⟨z,hz⟩:∃z,z=w.heap.size:=⟨_,rfl⟩;rw[←hz]at b0 b1 hB2⊢;have hwz:gw<z:=by omega
 have lgz:g<z:=by omega
 have ltz:t<z:=by have:=HU.out.lt;omega
 have ltw:0<n→tw<z:=fun h=>by have:=HU.out.ltw h;omega
 have Hz:=eh hz;clear hz;generalize(w.alloc (.cells #[.pointer (some ⟨g,0,none⟩)] 263)).alloc (.cells #[.bool false] 4)=w2 at*;have l1:=b1.lt;have S2:=HS.out.below hB2 lgz (fun _=>hwz);have U2:=HU.out.below hB2 ltz ltw;refine⟨trivial,?_⟩;refine(callsIn_wide.2 (sclone_any U2)).mono ?_;rintro e w3 ⟨t2,tw2,rfl,U3,-,-,h23⟩
 gi_wp2_with (refine⟨trivial,?_⟩;refine(callsIn_wide.2 (each_any t2 _)).mono ?_;rintro e w' ⟨rfl,rfl⟩)
 have h24:=(h23.alloc h23.size (.cells #[.pointer (some ⟨t2,0,none⟩)] 263));have bN:=Boxed.new w3 263 (.pointer (some ⟨t2,0,none⟩));have U4:=U3.grown (World.grownBy_alloc w3 (.cells #[.pointer (some ⟨t2,0,none⟩)] 263) none) (by simp) (by simp);have lN:w3.heap.size<(w3.alloc (.cells #[.pointer (some ⟨t2,0,none⟩)] 263)).heap.size:=by simp
 have hB4:=hB2.trans (h24.mono (by omega));have hl3:=h23.size;have b04:Boxed _ z 263 _:=(h24.block z (by omega)).trans b0;have b14:Boxed _ (z+1) 4 _:=(h24.block (z+1) (by omega)).trans b1;have S4:=HS.out.below hB4 lgz (fun _=>hwz);have T4:=HT.out.below hB4 (by omega);clear U3 h23 hB2 b0 b1 S2 U2 h24;obtain⟨g4,hg4⟩:∃g4,g4=w3.heap.size:=⟨_,rfl⟩;rw[←hg4]at bN lN⊢;generalize w3.alloc (.cells #[.pointer (some ⟨t2,0,none⟩)] 263)=w4 at*;have hG4:w.grownBy w4 (some gw):=⟨hB4.os,hB4.tape,hB4.output,hB4.size,fun k hk _=>hB4.block k (by have:=Hz.out;omega)⟩;have hw4:=hB4.size;have h24':(13+1)≤w4.heap.size:=by omega
 clear hg4 hl3;refine wpIn_rangeFunc_ownG (α:=Nat) (encs:=fun(y:Nat)=>#[Value.int .i64 (y:Int)]) (Kp:=Below (13+1)) (S:=fun ys=>ys=bl y) (Sp:=fun pre=>pre<+:bl y) (N:=12) (w0:=w4) rfl (by omega) (gf:=177) (lb:=#[.pointer (some ⟨g4,0,none⟩)]) rfl trivial (enters_of Tryz.func177 (by kernel_rfl) rfl)
  (fun l J Jx W hW _ _ hY h0=>each1_in (by omega) l g4 J Jx hY W ((hW.cell (p:=⟨g4,0,none⟩) lN).trans bN.cell) (U4.below hW U4.lt U4.ltw) (T4.below hW T4.1) h0)
  belowK_t (belowK_b h24') (Below.refl _ _) (fun _=>rfl)
  (fun pre W=>Boxed W z 263 (.pointer (some ⟨g,0,none⟩))∧Boxed W (z+1) 4 (.bool (decide (aal n x pre≠x)))∧SetW W g gw n (aal n x pre)∧w.grownBy W (some gw))
  (fun _ _ _=>False)
  (fun s W W' row hs hg hr=>by
   obtain⟨c0,c1,c2,c3⟩:=hs;have hne:∀{b:Nat} {t:TypeId} {cs:Array Value},Blk W b t cs→some b≠row:=fun h e=>by
    obtain⟨_,o,ho,hc⟩:=hr _ e.symm;unfold Blk at h;rw[h]at ho;cases ho;cases hc
   have hne2:∀k,k<w.heap.size→some k≠row:=fun k hk e=>by
    have:=(hr _ e.symm).1;omega
   refine⟨c0.kept hg (hne (t:=263) c0),c1.kept hg (hne (t:=4) c1),c2.grown hg (hne2 g lg) (fun _=>hne2 gw hw.2),⟨hg.os.trans c3.os,hg.tape.trans c3.tape,hg.output.trans c3.output,Nat.le_trans c3.size hg.size,fun k hk he=>(hg.block k (Nat.lt_of_lt_of_le hk c3.size) (hne2 k hk)).trans (c3.block k hk he)⟩⟩)
  (fun _ _ _ _ _ hs _ _=>hs)
  ⟨b04,by simpa[aal]using b14,by simpa[aal]using S4,hG4⟩
  (fun x=>{tmps:=#[.pointer (some ⟨g,0,none⟩),.pointer (some ⟨t,0,none⟩),.pointer (some ⟨z,0,none⟩),undef,.bool false,.pointer (some ⟨z+1,0,none⟩),.int .i64 x,.pointer (some ⟨t,0,none⟩),.pointer (some ⟨t2,0,none⟩),.func (.func 177) #[] #[.pointer (some ⟨g4,0,none⟩)],.int .i64 x,undef,undef,undef,undef,undef,undef,undef],defers:=[]}) ?assign ?body ?done ?stop
 case assign=>
  intro l x W K hK
  gi_wp2
  exact hK
 case body=>
  rintro l pre i W ⟨c0,c1,c2,c3⟩ hlt;have hn:=aal_new (n:=n) (x:=x) (l:=pre) i;have e0:=aal_snoc (n:=n) (x:=x) (l:=pre) i;obtain⟨r,hr⟩:∃r,r=(decide (0≤(i:Int)∧(i:Int)<n)&& !bhas n (aal n x pre) i):=⟨_,rfl⟩;rw[←hr]at hn;have Hadd:=eh ((sadd_any c2 i).mono (R':=fun e w'=>e=.returned (.bool r)∧SetW w' g gw n (aal n x (pre++[i]))∧W.grownBy w' (some gw)) (fun e w' h=>by rw[hr,e0];exact h));have d0:=c0.cell;have c3':=eh c3;have E0:=eh hn;clear hn e0 hr c2 c3;have lW:z+1<W.heap.size:=c1.lt;cases r
  ·gi_wp2_with (refine⟨trivial,?_⟩;refine(CallsIn.inRound l (callsIn_wide.2 Hadd.out)).mono ?_;rintro e w1 ⟨rfl,hS1,hg1⟩;have q1:=c1.kept hg1 (fun e=>by cases e;omega);have d1:=q1.cell;have f1:=q1.frozen;have q0:=c0.kept hg1 (fun e=>by cases e;omega))
   refine⟨(KeepsFrom.of_grownBy hg1 (fun j e=>by cases e;omega)).trans ((KeepsOthers.setCell _ _ _).from _),(belowG hg1 hw.1 (by omega)).setCell (p:=⟨z+1,0,none⟩) (by show(13+1)≤z+1;omega) _,q0.kept (uA _ _ _) (by simp),by
    have e:=E0.out.symm;simp only[Bool.false_or,Bool.true_or]at e;rw[e];simpa using q1.set _,hS1.grown (uA _ _ _) (by simp;omega) (fun _=>by simp;omega),gNew (c3'.out.trans hg1) (by show w.heap.size≤z+1;have:=Hz.out;omega) _⟩
  ·gi_wp2_with (refine⟨trivial,?_⟩;refine(CallsIn.inRound l (callsIn_wide.2 Hadd.out)).mono ?_;rintro e w1 ⟨rfl,hS1,hg1⟩;have q1:=c1.kept hg1 (fun e=>by cases e;omega);have d1:=q1.cell;have f1:=q1.frozen;have q0:=c0.kept hg1 (fun e=>by cases e;omega))
   refine⟨(KeepsFrom.of_grownBy hg1 (fun j e=>by cases e;omega)).trans ((KeepsOthers.setCell _ _ _).from _),(belowG hg1 hw.1 (by omega)).setCell (p:=⟨z+1,0,none⟩) (by show(13+1)≤z+1;omega) _,q0.kept (uA _ _ _) (by simp),by
    have e:=E0.out.symm;simp only[Bool.false_or,Bool.true_or]at e;rw[e];simpa using q1.set _,hS1.grown (uA _ _ _) (by simp;omega) (fun _=>by simp;omega),gNew (c3'.out.trans hg1) (by show w.heap.size≤z+1;have:=Hz.out;omega) _⟩
 case done=>
  rintro D ys W hD rfl ⟨c0,c1,c2,c3⟩ hK;have hc:=c1.cell
  gi_wp2
  refine⟨by simp,.inl ⟨_,_,rfl,run_takeDeferred hK,?_⟩⟩;have hne:∀{b:Nat} {t:TypeId} {cs:Array Value},Blk W b t cs→some b≠some D:=fun h e=>by
   cases e;unfold Blk at h;rw[h]at hK;cases hK
  have hDw:w.heap.size≤D:=by have:=hB4.size;omega
  have hx:=aal_bl (x:=x) U4.1 U4.2.1;rw[hx]at c2;exact⟨_,results_tmp rfl _ _ _,by rw[←hx];simp,c2.grown (grownBy_putObj' W D _) (by intro e;cases e;omega) (fun _=>by intro e;cases e;omega),⟨c3.os,c3.tape,c3.output,Nat.le_trans c3.size (grownBy_putObj' W D _).size,fun k hk he=>((grownBy_putObj' W D _).block k (Nat.lt_of_lt_of_le hk c3.size) (by intro e;cases e;omega)).trans (c3.block k hk he)⟩⟩
 case stop=>
  rintro D c pre W _ _ h _;exact h.elim
end Go.Proofs.YtgbgbmdiomhfiaaGreatDoor
namespace Go.Proofs.YtgbgbmdiomhfiaaGreatDoor
open Go.RowKit Go.Maps
attribute [local go_sem] Oper.semAt_some
theorem infoInt4:(Tryz.prog.info? 3).map (fun i=>(i.zero,i.size,i.bytes))=some (some (.int .i64 0),1,8):=by kernel_rfl
def bi(l:List Nat):List Value:=l.map fun(y:Nat)=>Value.int .i64 (y:Int)
def ListPost(w:World)(x:Nat)(e:Ending)(w':World):Prop:=∃v,e=.returned v∧w'.ownsRow w.heap.size 3 1 v (bl x).length (bi (bl x))∧Below w.heap.size w w'
theorem slist_any{w:World}{g gw n x:Nat}(hs:SetW w g gw n x)(hT:Tz w):Calls Tryz.prog 150 #[.pointer (some ⟨g,0,none⟩)] w (ListPost w x):=by
 obtain⟨i0,hi,hz0,hz1,hz2⟩:=info_parts infoInt4;have HS:=eh hs;have HT:=eh hT;have lg:=hs.lt;have l24:=hT.1;have lgw:0<n→gw<w.heap.size:=hs.ltw;clear hs hT;refine(callsIn_wide (n:=3)).1 ?_;refine callsIn_of_wp_marks Tryz.func150 rfl trivial ?_ rfl;simp only[Tryz.ntmps150,List.size_toArray,List.length_cons,List.length_nil,Nat.reduceAdd,Nat.reduceSub,Array.replicate_succ,Array.replicate_zero,List.push_toArray,List.append_toArray,List.nil_append,List.cons_append]
 gi_wp2_with (refine⟨trivial,?_⟩;refine(callsIn_wide.2 (each_any g _)).mono ?_;rintro e w' ⟨rfl,rfl⟩)
 have bO:=Boxed.new w 38 (.slice none 0 0);have bN:=Boxed.new (w.alloc (.cells #[.slice none 0 0] 38)) 263 (.pointer (some ⟨g,0,none⟩));rw[World.size_alloc]at bN;have hB0:Below w.heap.size w ((w.alloc (.cells #[.slice none 0 0] 38)).alloc (.cells #[.pointer (some ⟨g,0,none⟩)] 263)):=((Below.refl _ w).alloc (Nat.le_refl _) _).alloc (by simp) _;refine wpIn_rangeFunc_ownG (α:=Nat) (encs:=fun(y:Nat)=>#[Value.int .i64 (y:Int)]) (Kp:=Below (13+1)) (S:=fun ys=>ys=bl x) (Sp:=fun pre=>pre<+:bl x) (N:=12) (w0:=(w.alloc (.cells #[.slice none 0 0] 38)).alloc (.cells #[.pointer (some ⟨g,0,none⟩)] 263)) rfl (by omega) (gf:=177) (lb:=#[.pointer (some ⟨w.heap.size+1,0,none⟩)]) rfl trivial (enters_of Tryz.func177 (by kernel_rfl) rfl)
  (fun l J Jx W hW _ _ hY h0=>each1_in (by omega) l (w.heap.size+1) J Jx hY W ((hW.cell (p:=⟨w.heap.size+1,0,none⟩) (by simp)).trans bN.cell) ((HS.out.below hB0 lg lgw).below hW (by simp;omega) (fun h=>by have:=lgw h;simp;omega)) ((HT.out.below hB0 l24).below hW (by simp;omega)) h0)
  belowK_t (belowK_b (by simp;omega)) (Below.refl _ _) (fun _=>rfl)
  (fun pre W=>(∃v,Boxed W w.heap.size 38 v∧W.ownsRow w.heap.size 3 1 v pre.length (bi pre)∧True)∧Below w.heap.size w W)
  (fun _ _ _=>False)
  (OwnFrom.and (Own.from (holdsRow_own w.heap.size w.heap.size 38 3 1 (fun pre=>pre.length) (fun pre=>bi pre) (fun pre v=>True)) _) (ownFrom_below (Nat.le_refl _) (by simp;omega)))
  (fun _ _ _ _ _ hs _ _=>hs)
  ⟨⟨_,bO.alloc _,World.ownsRow_nil _ _ _ _,trivial⟩,hB0⟩
  (fun x=>{tmps:=#[.pointer (some ⟨g,0,none⟩),undef,.slice none 0 0,.pointer (some ⟨w.heap.size,0,none⟩),.int .i64 x,.pointer (some ⟨g,0,none⟩),.func (.func 177) #[] #[.pointer (some ⟨w.heap.size+1,0,none⟩)],.int .i64 x,undef,undef,undef,undef,undef],defers:=[]}) ?assign ?body ?done ?stop
 case assign=>
  intro l x W K hK
  gi_wp2
  exact hK
 case body=>
  rintro l pre x W ⟨⟨v,hv,hrow,-⟩,hB⟩ hlt;have hc:=hv.cell
  gi_wp2_with (gi_at_builtin;refine wpListIn_append_own _ rfl _ _ 38 rfl w.heap.size 3 i0 (.int .i64 0) 1 8 Tryz.underlying38 hi hz0 hz1 hz2 rfl (by decide) _ _ _ rfl (hrow.alloc _) ⟨W.heap.size,0,none⟩ 1 1 [.int .i64 x] rfl rfl (cell_one_new _ _ _) (by simp[Value.oneCell']) (by unfold maxLen;omega) (by omega) (by have:=hB.size;simp;omega) ?_;intro v' w1 hown' hgrow _;obtain⟨g',cap',rfl⟩:=ownsRow_succ hown';obtain⟨hv1,hv2,hr2,hk2,hb2⟩:=hv.appended (by decide) hrow hB.size (Nat.le_refl _) hown' hgrow;have hc1:=hv1.cell;have hf1:=hv1.frozen)
  exact⟨hk2.from _,⟨hb2.os,hb2.tape,hb2.output,hb2.size,fun k hk=>hb2.block k (by omega)⟩,⟨_,hv2,by simpa[bi]using hr2,trivial⟩,hB.trans hb2⟩
 case done=>
  rintro D ys W hD rfl ⟨⟨v,hv,hrow,-⟩,hB⟩ hK;have hc:=hv.cell
  gi_wp2
  refine⟨by simp,.inl ⟨_,_,rfl,run_takeDeferred hK,?_⟩⟩;exact⟨_,results_tmp rfl _ _ _,v,rfl,ownsRow_putObj hrow _ hK rfl,hB.trans (belowK_b (w:=w) (Nat.le_refl _) W D _ _ (by simp at hD;omega) hK rfl rfl)⟩
 case stop=>
  rintro D c pre W _ _ h _;exact h.elim
end Go.Proofs.YtgbgbmdiomhfiaaGreatDoor
namespace Go.Proofs.YtgbgbmdiomhfiaaGreatDoor
open Go.RowKit Go.Maps
theorem tz_of{W:World}(h:Lib.TabIs Tryz.prog W "math/bits.deBruijn64tab" .u8 (Lib.deBruijn64tab.map Int.ofNat)):Tz W:=by
 unfold Lib.TabIs World.var? at h;rw[show Tryz.prog.globalNamed "math/bits.deBruijn64tab" =some 13 by kernel_rfl]at h;simp only[Option.bind_some]at h;split at h
 ·rename_i cs t x he;have hc:=Option.some.inj h;refine⟨(Array.getElem?_eq_some_iff.1 he).1,fun j hj=>?_⟩;rw[cell_of_row W _ j cs t x he,hc];simp[hj,List.getD_eq_getElem?_getD]
 ·cases h
end Go.Proofs.YtgbgbmdiomhfiaaGreatDoor