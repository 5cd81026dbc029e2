/-
 PgIns, PgIns2, PgMay, PgFair.
-/
import Derived.Deep.RegionHeld3
import Derived.Deep.CutBlock
import Derived.Test.YtgbgbmdiomhfiaaGreatDoorJMk
set_option linter.unusedSimpArgs false
set_option linter.unusedVariables false
set_option maxHeartbeats 8000000
set_option maxRecDepth 100000
namespace Go.Proofs.YtgbgbmdiomhfiaaGreatDoor
open Go.RowKit Go.Maps
theorem keep_cell{W w':World}{b o g:Nat}{v:Value}(hb:Below W.heap.size W w')(hg:g<W.heap.size)(hbg:b≤g)(h:W.cell? ⟨b,o,none⟩=some v):w'.cell? ⟨b,o,none⟩=some v:=
 (hb.cell (p:=⟨b,o,none⟩) (Nat.lt_of_le_of_lt hbg hg)).trans h
def uG(cl:List ByteArray)(nm locals:Nat)(x:Ins):Bool:=
 if x.op=3∨x.op=4 then inB x.a locals
 else if x.op=24∨x.op=27 then inB x.a cl.length
 else if x.op=25∨x.op=26 then inB x.a cl.length&&inB x.b (cl.getD x.a.toNat ⟨#[]⟩).size
 else if x.op=28∨x.op=29∨x.op=30 then inB x.a 2
 else if x.op=32 then decide (0<x.a)&&inB x.a nm
 else true
def tgtB(codes:Nat)(x:Ins):Bool:=decide (x.op=22∨x.op=23)&& !inB x.a codes
def wantB(x:Ins):Bool:= !usesA x.op&&decide (x.a≠0)||(!usesB x.op&&decide (x.b≠0)|| !decide (x.op=1)&&decide (x.n≠0))
theorem Blk.drewN{w:World}{g:Nat}{t:TypeId}{cs:Array Value}(h:Blk w g t cs)(k:Nat):Blk (w.drewN k) g t cs:=h
theorem in_same(i:Int)(n:Nat)(w:World):Calls Tryz.prog 64 #[.int .i64 i,.int .i64 n] w fun e w'=>e=.returned (.bool (inB i n))∧w'=w:=(in_any i n w).mono fun _ _ ⟨h1,h2⟩=>⟨h1,h2.symm⟩
theorem in_eq{i:Int}{n:Nat}{b:Bool}(h:inB i n=b)(w:World):Calls Tryz.prog 64 #[.int .i64 i,.int .i64 n] w fun e w'=>e=.returned (.bool b)∧w'=w:=by subst h;exact in_same i n w
theorem uJ{i:Int}{n:Nat}(h:inB i n=true):0≤i∧i<n:=by simpa[inB]using h
theorem insBad_eq(cl:List ByteArray)(nm locals codes:Nat)(x:Ins)(h1:1≤x.op)(h35:x.op≤35):
 insBad cl nm locals codes x=if tgtB codes x then 4 else if !uG cl nm locals x||wantB x then 3 else 0:=by
 obtain⟨op,xa,xb,xn⟩:=x;simp only at h1 h35;have hc:op=3∨op=4∨op=22∨op=23∨op=24∨op=25∨op=26∨op=27∨op=28∨op=29∨op=30∨op=32∨(op≠3∧op≠4∧op≠22∧op≠23∧op≠24∧op≠25∧op≠26∧op≠27∧op≠28∧op≠29∧op≠30∧op≠32):=by omega
 unfold insBad tgtB uG wantB;rcases hc with rfl|rfl|rfl|rfl|rfl|rfl|rfl|rfl|rfl|rfl|rfl|rfl|⟨n1,n2,n3,n4,n5,n6,n7,n8,n9,n10,n11,n12⟩
 all_goals simp[usesA,usesB,opsA, *]
 all_goals(repeat' split)<;>simp_all<;>omega
theorem instr_in(a:Nat→Addr)(B:Nat)(w:World)(h:Sent w B all14 a)(hB:B≤w.heap.size)(Ac Am:Option Addr)(cc cm:Nat)(p:Prg)(hr:Rd w w.heap.size 1 Ac p.classes.length (p.classes.map Value.string))(hp:POk p)
 (A:Option Addr)(c:Nat)(m:Mth)(hk:m.pa.size+m.lo.size≤1000)(_:m.code.length≤9223372036854775807)(x:Ins)(h1:1≤x.op)(h35:x.op≤35):
 Calls Tryz.prog 34 #[pv Ac cc Am cm p,mv A c m,iv x] w fun e w'=>e=.returned (errV a (insBad p.classes p.methods.length (m.pa.size+m.lo.size) m.code.length x))∧Below w.heap.size w w':=by
 have heq:=insBad_eq p.classes p.methods.length (m.pa.size+m.lo.size) m.code.length x h1 h35;obtain⟨op,xa,xb,xn⟩:=x;simp only at h1 h35;have Heq:=eh heq;clear heq;have hcl:=hp.cl;have hms:=hp.ms;go_enter Tryz.func34,Tryz.ntmps34;go_upto_block 0 with(fail);have b1:=(((Blk.new w 31 #[.slice Ac p.classes.length cc,.slice Am p.methods.length cm]).alloc (.cells #[.string m.pa,.string m.lo,.string m.re,.slice A m.code.length c] 27)).alloc (.cells #[.int .i64 op,.int .i64 xa,.int .i64 xb,.int .i64 xn] 24));have b2:=((Blk.newAt (w:=w.alloc (.cells #[.slice Ac p.classes.length cc,.slice Am p.methods.length cm] 31)) (g:=w.heap.size+1) (by simp) 27 #[.string m.pa,.string m.lo,.string m.re,.slice A m.code.length c]).alloc (.cells #[.int .i64 op,.int .i64 xa,.int .i64 xb,.int .i64 xn] 24));have b3:=(Blk.newAt (w:=(w.alloc (.cells #[.slice Ac p.classes.length cc,.slice Am p.methods.length cm] 31)).alloc (.cells #[.string m.pa,.string m.lo,.string m.re,.slice A m.code.length c] 27)) (g:=w.heap.size+1+1) (by simp) 24 #[.int .i64 op,.int .i64 xa,.int .i64 xb,.int .i64 xn]);have hw:Below w.heap.size w (((w.alloc (.cells #[.slice Ac p.classes.length cc,.slice Am p.methods.length cm] 31)).alloc (.cells #[.string m.pa,.string m.lo,.string m.re,.slice A m.code.length c] 27)).alloc (.cells #[.int .i64 op,.int .i64 xa,.int .i64 xb,.int .i64 xn] 24)):=(((Below.refl _ _).alloc (Nat.le_refl _) _).alloc (by simp) _).alloc (by simp;omega) _;generalize((w.alloc (.cells #[.slice Ac p.classes.length cc,.slice Am p.methods.length cm] 31)).alloc (.cells #[.string m.pa,.string m.lo,.string m.re,.slice A m.code.length c] 27)).alloc (.cells #[.int .i64 op,.int .i64 xa,.int .i64 xb,.int .i64 xn] 24)=w3 at*;have hr3:=hr.below hw (Nat.le_refl _);have hz3:w.heap.size+1+1<w3.heap.size:=b3.lt;have p0:=b1.at0;have p1:=b1.at1;have m0:=b2.at0;have m1:=b2.at1;have m2:=b2.at2;have m3:=b2.at3;have i0:=b3.at0;have i1:=b3.at1;have i2:=b3.at2;have i3:=b3.at3;go_cut [7]from 22 to 92 (fun v wx=>v=.bool (uG p.classes p.methods.length (m.pa.size+m.lo.size) ⟨op,xa,xb,xn⟩)∧tgtB m.code.length ⟨op,xa,xb,xn⟩=false∧Below w.heap.size w wx∧Blk wx (w.heap.size+1+1) 24 #[.int .i64 op,.int .i64 xa,.int .i64 xb,.int .i64 xn])
 case first=>
  have hc:op=3∨op=4∨op=22∨op=23∨op=24∨op=25∨op=26∨op=27∨op=28∨op=29∨op=30∨op=32∨(op≠3∧op≠4∧op≠22∧op≠23∧op≠24∧op≠25∧op≠26∧op≠27∧op≠28∧op≠29∧op≠30∧op≠32):=by omega
  rcases hc with e|e|e|e|e|e|e|e|e|e|e|e|⟨n1,n2,n3,n4,n5,n6,n7,n8,n9,n10,n11,n12⟩
  ·have ht:=eh (show uG p.classes p.methods.length (m.pa.size+m.lo.size) ⟨op,xa,xb,xn⟩=inB xa (m.pa.size+m.lo.size) by unfold uG;simp[e]);have hg:tgtB m.code.length ⟨op,xa,xb,xn⟩=false:=by unfold tgtB;simp[e]
   have f3:(op==3)=true:=by simp;omega
   have He:=eh e;clear e;go_wp2;go_region_held3 (fun w'=>w'.cell? ⟨w.heap.size+1+1,1,none⟩=some (.int .i64 xa)∧w'.cell? ⟨w.heap.size+1,0,none⟩=some (.string m.pa)∧w'.cell? ⟨w.heap.size+1,1,none⟩=some (.string m.lo)∧w'.cell? ⟨w.heap.size+1,2,none⟩=some (.string m.re)∧w'.cell? ⟨w.heap.size+1,3,none⟩=some (.slice A m.code.length c)∧w.heap.size+1+1<w'.heap.size∧Hid (Below w.heap.size w w'))
    ((go_split_ands;refine⟨?_,?_,?_,?_,?_,?_,?_⟩<;>first|assumption|exact eh hw.drew|exact keep_cell hb (hz3:w.heap.size+1+1<w3.drew.heap.size) (by omega) (by assumption)|(have hbs:=hb.size;omega)|(have hq:=hb.mono (B':=w.heap.size) (by omega);exact eh (Below.trans (Hid.out (by assumption)) hq))))
    (first|(go_at_call 28;refine(kinds_any _ _ _ _ hk).mono ?_;rintro e w' ⟨rfl,hb⟩)|(go_at_call 64;refine(in_any _ _ _).mono ?_;rintro e w' ⟨rfl,rfl⟩))
   go_wp2;go_meet;exact⟨by rw[ht.out],hg,hw.drew.trans (hb.mono (Nat.le_of_lt (Nat.lt_trans (by omega) hz3))),b3.drew.below hb hz3⟩
  ·have ht:=eh (show uG p.classes p.methods.length (m.pa.size+m.lo.size) ⟨op,xa,xb,xn⟩=inB xa (m.pa.size+m.lo.size) by unfold uG;simp[e]);have hg:tgtB m.code.length ⟨op,xa,xb,xn⟩=false:=by unfold tgtB;simp[e]
   have f3:(op==3)=false:=by simp;omega
   have f4:(op==4)=true:=by simp;omega
   have He:=eh e;clear e;go_wp2;go_region_held3 (fun w'=>w'.cell? ⟨w.heap.size+1+1,1,none⟩=some (.int .i64 xa)∧w'.cell? ⟨w.heap.size+1,0,none⟩=some (.string m.pa)∧w'.cell? ⟨w.heap.size+1,1,none⟩=some (.string m.lo)∧w'.cell? ⟨w.heap.size+1,2,none⟩=some (.string m.re)∧w'.cell? ⟨w.heap.size+1,3,none⟩=some (.slice A m.code.length c)∧w.heap.size+1+1<w'.heap.size∧Hid (Below w.heap.size w w'))
    ((go_split_ands;refine⟨?_,?_,?_,?_,?_,?_,?_⟩<;>first|assumption|exact eh hw.drew|exact keep_cell hb (hz3:w.heap.size+1+1<w3.drew.heap.size) (by omega) (by assumption)|(have hbs:=hb.size;omega)|(have hq:=hb.mono (B':=w.heap.size) (by omega);exact eh (Below.trans (Hid.out (by assumption)) hq))))
    (first|(go_at_call 28;refine(kinds_any _ _ _ _ hk).mono ?_;rintro e w' ⟨rfl,hb⟩)|(go_at_call 64;refine(in_any _ _ _).mono ?_;rintro e w' ⟨rfl,rfl⟩))
   go_wp2;go_meet;exact⟨by rw[ht.out],hg,hw.drew.trans (hb.mono (Nat.le_of_lt (Nat.lt_trans (by omega) hz3))),b3.drew.below hb hz3⟩
  ·have ht:=eh (show uG p.classes p.methods.length (m.pa.size+m.lo.size) ⟨op,xa,xb,xn⟩=true by unfold uG;simp[e]);have hg:=eh (show tgtB m.code.length ⟨op,xa,xb,xn⟩= !inB xa m.code.length by unfold tgtB;simp[e]);have f3:(op==3)=false:=by simp;omega
   have f4:(op==4)=false:=by simp;omega
   have f24:(op==24)=false:=by simp;omega
   have f27:(op==27)=false:=by simp;omega
   have f25:(op==25)=false:=by simp;omega
   have f26:(op==26)=false:=by simp;omega
   have f28:(op==28)=false:=by simp;omega
   have f29:(op==29)=false:=by simp;omega
   have f30:(op==30)=false:=by simp;omega
   have f32:(op==32)=false:=by simp;omega
   have f22:(op==22)=true:=by simp;omega
   have He:=eh e;clear e;cases hi:inB xa m.code.length with
   |true=>
    rw[hi]at hg;go_wp2_with (go_at_call 64;refine(in_any _ _ _).mono ?_;rintro e w' ⟨rfl,rfl⟩);go_meet;exact⟨by rw[ht.out],hg.out,hw,b3⟩
   |false=>
    rw[hi]at hg;have c4:=((h.below hw hB).cell 4 (by decide)).2;simp only[gOf,sent]at c4;go_wp2_with (go_at_call 64;refine(in_any _ _ _).mono ?_;rintro e w' ⟨rfl,rfl⟩);go_ret;exact⟨by rw[Heq.out,hg.out];rfl,hw⟩
  ·have ht:=eh (show uG p.classes p.methods.length (m.pa.size+m.lo.size) ⟨op,xa,xb,xn⟩=true by unfold uG;simp[e]);have hg:=eh (show tgtB m.code.length ⟨op,xa,xb,xn⟩= !inB xa m.code.length by unfold tgtB;simp[e]);have f3:(op==3)=false:=by simp;omega
   have f4:(op==4)=false:=by simp;omega
   have f24:(op==24)=false:=by simp;omega
   have f27:(op==27)=false:=by simp;omega
   have f25:(op==25)=false:=by simp;omega
   have f26:(op==26)=false:=by simp;omega
   have f28:(op==28)=false:=by simp;omega
   have f29:(op==29)=false:=by simp;omega
   have f30:(op==30)=false:=by simp;omega
   have f32:(op==32)=false:=by simp;omega
   have f22:(op==22)=false:=by simp;omega
   have f23:(op==23)=true:=by simp;omega
   have He:=eh e;clear e;cases hi:inB xa m.code.length with
   |true=>
    rw[hi]at hg;go_wp2_with (go_at_call 64;refine(in_any _ _ _).mono ?_;rintro e w' ⟨rfl,rfl⟩);go_meet;exact⟨by rw[ht.out],hg.out,hw,b3⟩
   |false=>
    rw[hi]at hg;have c4:=((h.below hw hB).cell 4 (by decide)).2;simp only[gOf,sent]at c4;go_wp2_with (go_at_call 64;refine(in_any _ _ _).mono ?_;rintro e w' ⟨rfl,rfl⟩);go_ret;exact⟨by rw[Heq.out,hg.out];rfl,hw⟩
  ·have ht:=eh (show uG p.classes p.methods.length (m.pa.size+m.lo.size) ⟨op,xa,xb,xn⟩=inB xa p.classes.length by unfold uG;simp[e]);have hg:tgtB m.code.length ⟨op,xa,xb,xn⟩=false:=by unfold tgtB;simp[e]
   have f3:(op==3)=false:=by simp;omega
   have f4:(op==4)=false:=by simp;omega
   have f24:(op==24)=true:=by simp;omega
   have He:=eh e;clear e;go_wp2_with (go_at_call 64;refine(in_any _ _ _).mono ?_;rintro e w' ⟨rfl,rfl⟩);go_meet;exact⟨by rw[ht.out],hg,hw,b3⟩
  ·have ht:=eh (show uG p.classes p.methods.length (m.pa.size+m.lo.size) ⟨op,xa,xb,xn⟩=(inB xa p.classes.length&&inB xb (p.classes.getD xa.toNat ⟨#[]⟩).size) by unfold uG;simp[e]);have hg:tgtB m.code.length ⟨op,xa,xb,xn⟩=false:=by unfold tgtB;simp[e]
   have f3:(op==3)=false:=by simp;omega
   have f4:(op==4)=false:=by simp;omega
   have f24:(op==24)=false:=by simp;omega
   have f27:(op==27)=false:=by simp;omega
   have f25:(op==25)=true:=by simp;omega
   have He:=eh e;clear e;cases hi:inB xa p.classes.length with
   |false=>
    rw[hi]at ht;have Hi:=eh hi;clear hi;go_wp2;go_quiet ((go_at_call 64;exact Calls.quiet_of_same (in_eq Hi.out _)));go_wp2;go_meet;exact⟨by rw[ht.out];rfl,hg,uC hw _,b3.drewN _⟩
   |true=>
    rw[hi]at ht;have hx:=(uJ hi);obtain⟨k,rfl⟩:∃k:Nat,xa=k:=⟨xa.toNat,by omega⟩;have Hi:=eh hi;clear hi;have hkl:k<p.classes.length:=by omega
    obtain⟨b,off,rfl,hbl,c1⟩:=str_at hr3 hkl;have hfs:=hp.fs k hkl;simp only[Int.toNat_natCast]at ht;have k0:(0:Int)≤k:=by omega
    have k1:(k:Int)<p.classes.length:=by omega
    go_wp2;go_quiet ((first|(go_at_call 64;with_reducible exact Calls.quiet_of_same (in_eq Hi.out _))|(go_at_call 64;with_reducible exact Calls.quiet_of_same (in_same xb _ _))));go_wp2;go_meet;exact⟨by rw[ht.out];simp[hkl],hg,uC hw _,b3.drewN _⟩
  ·have ht:=eh (show uG p.classes p.methods.length (m.pa.size+m.lo.size) ⟨op,xa,xb,xn⟩=(inB xa p.classes.length&&inB xb (p.classes.getD xa.toNat ⟨#[]⟩).size) by unfold uG;simp[e]);have hg:tgtB m.code.length ⟨op,xa,xb,xn⟩=false:=by unfold tgtB;simp[e]
   have f3:(op==3)=false:=by simp;omega
   have f4:(op==4)=false:=by simp;omega
   have f24:(op==24)=false:=by simp;omega
   have f27:(op==27)=false:=by simp;omega
   have f25:(op==25)=false:=by simp;omega
   have f26:(op==26)=true:=by simp;omega
   have He:=eh e;clear e;cases hi:inB xa p.classes.length with
   |false=>
    rw[hi]at ht;have Hi:=eh hi;clear hi;go_wp2;go_quiet ((go_at_call 64;exact Calls.quiet_of_same (in_eq Hi.out _)));go_wp2;go_meet;exact⟨by rw[ht.out];rfl,hg,uC hw _,b3.drewN _⟩
   |true=>
    rw[hi]at ht;have hx:=(uJ hi);obtain⟨k,rfl⟩:∃k:Nat,xa=k:=⟨xa.toNat,by omega⟩;have Hi:=eh hi;clear hi;have hkl:k<p.classes.length:=by omega
    obtain⟨b,off,rfl,hbl,c1⟩:=str_at hr3 hkl;have hfs:=hp.fs k hkl;simp only[Int.toNat_natCast]at ht;have k0:(0:Int)≤k:=by omega
    have k1:(k:Int)<p.classes.length:=by omega
    go_wp2;go_quiet ((first|(go_at_call 64;with_reducible exact Calls.quiet_of_same (in_eq Hi.out _))|(go_at_call 64;with_reducible exact Calls.quiet_of_same (in_same xb _ _))));go_wp2;go_meet;exact⟨by rw[ht.out];simp[hkl],hg,uC hw _,b3.drewN _⟩
  ·have ht:=eh (show uG p.classes p.methods.length (m.pa.size+m.lo.size) ⟨op,xa,xb,xn⟩=inB xa p.classes.length by unfold uG;simp[e]);have hg:tgtB m.code.length ⟨op,xa,xb,xn⟩=false:=by unfold tgtB;simp[e]
   have f3:(op==3)=false:=by simp;omega
   have f4:(op==4)=false:=by simp;omega
   have f24:(op==24)=false:=by simp;omega
   have f27:(op==27)=true:=by simp;omega
   have He:=eh e;clear e;go_wp2_with (go_at_call 64;refine(in_any _ _ _).mono ?_;rintro e w' ⟨rfl,rfl⟩);go_meet;exact⟨by rw[ht.out],hg,hw,b3⟩
  ·have ht:=eh (show uG p.classes p.methods.length (m.pa.size+m.lo.size) ⟨op,xa,xb,xn⟩=inB xa 2 by unfold uG;simp[e]);have hg:tgtB m.code.length ⟨op,xa,xb,xn⟩=false:=by unfold tgtB;simp[e]
   have f3:(op==3)=false:=by simp;omega
   have f4:(op==4)=false:=by simp;omega
   have f24:(op==24)=false:=by simp;omega
   have f27:(op==27)=false:=by simp;omega
   have f25:(op==25)=false:=by simp;omega
   have f26:(op==26)=false:=by simp;omega
   have f28:(op==28)=true:=by simp;omega
   have He:=eh e;clear e;go_wp2_with (go_at_call 64;refine(in_any _ 2 _).mono ?_;rintro e w' ⟨rfl,rfl⟩);go_meet;exact⟨by rw[ht.out],hg,hw,b3⟩
  ·have ht:=eh (show uG p.classes p.methods.length (m.pa.size+m.lo.size) ⟨op,xa,xb,xn⟩=inB xa 2 by unfold uG;simp[e]);have hg:tgtB m.code.length ⟨op,xa,xb,xn⟩=false:=by unfold tgtB;simp[e]
   have f3:(op==3)=false:=by simp;omega
   have f4:(op==4)=false:=by simp;omega
   have f24:(op==24)=false:=by simp;omega
   have f27:(op==27)=false:=by simp;omega
   have f25:(op==25)=false:=by simp;omega
   have f26:(op==26)=false:=by simp;omega
   have f28:(op==28)=false:=by simp;omega
   have f29:(op==29)=true:=by simp;omega
   have He:=eh e;clear e;go_wp2_with (go_at_call 64;refine(in_any _ 2 _).mono ?_;rintro e w' ⟨rfl,rfl⟩);go_meet;exact⟨by rw[ht.out],hg,hw,b3⟩
  ·have ht:=eh (show uG p.classes p.methods.length (m.pa.size+m.lo.size) ⟨op,xa,xb,xn⟩=inB xa 2 by unfold uG;simp[e]);have hg:tgtB m.code.length ⟨op,xa,xb,xn⟩=false:=by unfold tgtB;simp[e]
   have f3:(op==3)=false:=by simp;omega
   have f4:(op==4)=false:=by simp;omega
   have f24:(op==24)=false:=by simp;omega
   have f27:(op==27)=false:=by simp;omega
   have f25:(op==25)=false:=by simp;omega
   have f26:(op==26)=false:=by simp;omega
   have f28:(op==28)=false:=by simp;omega
   have f29:(op==29)=false:=by simp;omega
   have f30:(op==30)=true:=by simp;omega
   have He:=eh e;clear e;go_wp2_with (go_at_call 64;refine(in_any _ 2 _).mono ?_;rintro e w' ⟨rfl,rfl⟩);go_meet;exact⟨by rw[ht.out],hg,hw,b3⟩
  ·have ht:=eh (show uG p.classes p.methods.length (m.pa.size+m.lo.size) ⟨op,xa,xb,xn⟩=(decide (0<xa)&&inB xa p.methods.length) by unfold uG;simp[e]);have hg:tgtB m.code.length ⟨op,xa,xb,xn⟩=false:=by unfold tgtB;simp[e]
   have f3:(op==3)=false:=by simp;omega
   have f4:(op==4)=false:=by simp;omega
   have f24:(op==24)=false:=by simp;omega
   have f27:(op==27)=false:=by simp;omega
   have f25:(op==25)=false:=by simp;omega
   have f26:(op==26)=false:=by simp;omega
   have f28:(op==28)=false:=by simp;omega
   have f29:(op==29)=false:=by simp;omega
   have f30:(op==30)=false:=by simp;omega
   have f32:(op==32)=true:=by simp;omega
   have He:=eh e;clear e
   by_cases hx:0<xa
   ·go_wp2_with (go_at_call 64;refine(in_any _ _ _).mono ?_;rintro e w' ⟨rfl,rfl⟩);go_meet;exact⟨by rw[ht.out];simp[hx],hg,hw,b3⟩
   ·go_wp2_with (go_at_call 64;refine(in_any _ _ _).mono ?_;rintro e w' ⟨rfl,rfl⟩);go_meet;exact⟨by rw[ht.out,decide_eq_false (by omega)];rfl,hg,hw,b3⟩
  ·have ht:=eh (show uG p.classes p.methods.length (m.pa.size+m.lo.size) ⟨op,xa,xb,xn⟩=true by unfold uG;simp[*]);have hg:tgtB m.code.length ⟨op,xa,xb,xn⟩=false:=by unfold tgtB;simp[*]
   have f3:(op==3)=false:=by simp;omega
   have f4:(op==4)=false:=by simp;omega
   have f24:(op==24)=false:=by simp;omega
   have f27:(op==27)=false:=by simp;omega
   have f25:(op==25)=false:=by simp;omega
   have f26:(op==26)=false:=by simp;omega
   have f28:(op==28)=false:=by simp;omega
   have f29:(op==29)=false:=by simp;omega
   have f30:(op==30)=false:=by simp;omega
   have f32:(op==32)=false:=by simp;omega
   have f22:(op==22)=false:=by simp;omega
   have f23:(op==23)=false:=by simp;omega
   clear n1 n2 n3 n4 n5 n6 n7 n8 n9 n10 n11 n12;go_wp2;go_meet;exact⟨by rw[ht.out],hg,hw,b3⟩
 case rest=>
  obtain⟨rfl,hg,hbx,hbi⟩:=hcut;generalize uG p.classes p.methods.length (m.pa.size+m.lo.size) ⟨op,xa,xb,xn⟩=th at*;rw[hg]at Heq;have hwb:wantB ⟨op,xa,xb,xn⟩=(!usesA op&&decide (xa≠0)||(!usesB op&&decide (xb≠0)|| !decide (op=1)&&decide (xn≠0))):=rfl;generalize wantB ⟨op,xa,xb,xn⟩=wb at*;have Hwb:=eh hwb;clear hwb p0 p1 m0 m1 m2 m3 i0 i1 i2 i3 b1 b2 b3 hr3 hg hr;generalize iv ⟨op,xa,xb,xn⟩=ivv;have i0:=hbi.at0;have hzi:=hbi.lt;go_wp2_with fail;refine(uses_any op _).mono ?_;rintro e w5 ⟨rfl,hb5⟩;have hb6:=hbi.below hb5 hzi;have hbw:=hbx.trans (hb5.mono hbx.size);generalize usesA op=ua at*;generalize usesB op=ub at*;generalize decide (op=1)=uo at*;clear i0 hbi hb5 hzi;have i1:=hb6.at1;have i2:=hb6.at2;have i3:=hb6.at3;go_upto_region 25 with(fail);go_cut [128]from 100 to 128 (fun v wx=>v=.bool (!th||wb)∧wx=w5)
  case first=>
   cases th with
   |false=>
    go_wp2;go_meet;exact⟨rfl,rfl⟩
   |true=>
    cases ua<;>cases ub<;>cases uo
    all_goals
     go_wp2
     all_goals
      go_meet;refine⟨congrArg Value.bool ?_,rfl⟩;rw[Hwb.out,Bool.eq_iff_iff];simp[*]
  case rest=>
   obtain⟨rfl,hwx⟩:=hcut;subst hwx;cases hf:(!th||wb)with
   |true=>
    rw[hf]at Heq;have c3:=((h.below hbw hB).cell 3 (by decide)).2;simp only[gOf,sent]at c3;go_wp2;go_ret;exact⟨by rw[Heq.out];rfl,hbw⟩
   |false=>
    rw[hf]at Heq;go_wp2;go_ret;exact⟨by rw[Heq.out];rfl,hbw⟩
theorem instr_any(a:Nat→Addr)(B:Nat)(w:World)(h:Sent w B all14 a)(hB:B≤w.heap.size)(Ac Am:Option Addr)(cc cm:Nat)(p:Prg)(hr:Rd w w.heap.size 1 Ac p.classes.length (p.classes.map Value.string))(hp:POk p)
 (A:Option Addr)(c:Nat)(m:Mth)(hk:m.pa.size+m.lo.size≤1000)(hm:m.code.length≤9223372036854775807)(x:Ins):
 Calls Tryz.prog 34 #[pv Ac cc Am cm p,mv A c m,iv x] w fun e w'=>e=.returned (errV a (insBad p.classes p.methods.length (m.pa.size+m.lo.size) m.code.length x))∧Below w.heap.size w w':=by
 by_cases h1:1≤x.op
 ·by_cases h35:x.op≤35
  ·exact instr_in a B w h hB Ac Am cc cm p hr hp A c m hk hm x h1 h35
  ·have hh:=eh (show insBad p.classes p.methods.length (m.pa.size+m.lo.size) m.code.length x=2 by unfold insBad;rw[if_pos (by omega)]);obtain⟨op,xa,xb,xn⟩:=x;simp only at h1 h35;have f1:decide (op<1)=false:=by simp;omega
   have f2:decide (35<op)=true:=by simp;omega
   clear h1 h35;have c2:=fun o1 o2 o3=>(((h.below ((Below.refl w.heap.size w).alloc (Nat.le_refl _) o1) hB).below ((Below.refl _ _).alloc (Nat.le_refl _) o2) (by simp;omega)).below ((Below.refl _ _).alloc (Nat.le_refl _) o3) (by simp;omega)).cell 2 (by decide)
   have c3:=fun o1 o2 o3=>(c2 o1 o2 o3).2
   simp only[gOf,sent]at c3;clear c2;go_enter Tryz.func34,Tryz.ntmps34;go_wp2;go_ret;exact⟨by rw[hh.out];rfl,(((Below.refl _ _).alloc (Nat.le_refl _) _).alloc (by simp) _).alloc (by simp;omega) _⟩
 ·have hh:=eh (show insBad p.classes p.methods.length (m.pa.size+m.lo.size) m.code.length x=2 by unfold insBad;rw[if_pos (by omega)]);obtain⟨op,xa,xb,xn⟩:=x;simp only at h1;have f1:decide (op<1)=true:=by simp;omega
  clear h1;have c2:=fun o1 o2 o3=>(((h.below ((Below.refl w.heap.size w).alloc (Nat.le_refl _) o1) hB).below ((Below.refl _ _).alloc (Nat.le_refl _) o2) (by simp;omega)).below ((Below.refl _ _).alloc (Nat.le_refl _) o3) (by simp;omega)).cell 2 (by decide)
  have c3:=fun o1 o2 o3=>(c2 o1 o2 o3).2
  simp only[gOf,sent]at c3;clear c2;go_enter Tryz.func34,Tryz.ntmps34;go_wp2;go_ret;exact⟨by rw[hh.out];rfl,(((Below.refl _ _).alloc (Nat.le_refl _) _).alloc (by simp) _).alloc (by simp;omega) _⟩
def manyP(p:Prg):Prop:=12<p.classes.length∨p.methods.length=0∨12<p.methods.length
section
variable {p:Prg}
theorem may_many(h:manyP p):mayP p=(1,[]):=if_pos h
theorem may_cls(h:¬manyP p){k:Nat}{f:Flt}(hk:k<p.classes.length)(hno:∀j,j<k→clsBad p j=none)(hx:clsBad p k=some f):mayP p=f:=by
 unfold mayP;unfold manyP at h;rw[if_neg h,firstOf_some hk hno hx];rfl
theorem may_mth(h:¬manyP p)(hc:∀j,j<p.classes.length→clsBad p j=none){k:Nat}{f:Flt}(hk:k<p.methods.length)(hno:∀j,j<k→mthBad p j=none)(hx:mthBad p k=some f):mayP p=f:=by
 unfold mayP;unfold manyP at h;rw[if_neg h,firstOf_none hc,firstOf_some hk hno hx];rfl
theorem may_ok(h:¬manyP p)(hc:∀j,j<p.classes.length→clsBad p j=none)(hm:∀j,j<p.methods.length→mthBad p j=none):mayP p=(0,[]):=by
 unfold mayP;unfold manyP at h;rw[if_neg h,firstOf_none hc,firstOf_none hm];rfl
theorem mth_head{k e:Nat}(he:uR (p.methods.getD k default) (decide (k=0))=e+1):mthBad p k=some (e+1,[(k:Int),-1]):=by
 unfold mthBad;simp only[he];rfl
theorem mth_code{k pc:Nat}{f:Flt}(he:uR (p.methods.getD k default) (decide (k=0))=0)(hpc:pc<(p.methods.getD k default).code.length)(hno:∀j,j<pc→codeBad p (p.methods.getD k default) k j=none)(hx:codeBad p (p.methods.getD k default) k pc=some f):mthBad p k=some f:=by
 unfold mthBad;simp only[he];rw[firstOf_some hpc hno hx];rfl
theorem mth_ok{k:Nat}(he:uR (p.methods.getD k default) (decide (k=0))=0)(hno:∀j,j<(p.methods.getD k default).code.length→codeBad p (p.methods.getD k default) k j=none):mthBad p k=none:=by
 unfold mthBad;simp only[he];rw[firstOf_none hno];rfl
theorem head_small{m:Mth}{b:Bool}(he:uR m b=0):m.pa.size+m.lo.size≤12:=by
 unfold uR at he
 by_cases h:12<m.pa.size+m.lo.size∨m.code.length=0∨120<m.code.length
 ·rw[if_pos h]at he;cases he
 ·omega
theorem next_none{α:Type}{f:Nat→Option α}{k:Nat}(hno:∀j,j<k→f j=none)(hk:f k=none):∀j,j<k+1→f j=none:=fun j hj=>by
 by_cases e:j=k
 ·subst e;exact hk
 ·exact hno j (by omega)
end
theorem headBad_le(m:Mth)(b:Bool):uR m b=0∨uR m b=1∨uR m b=2:=by
 unfold uR;split
 ·simp
 ·split<;>simp
theorem insBad_le(cl:List ByteArray)(nm l c:Nat)(x:Ins):insBad cl nm l c x=0∨insBad cl nm l c x=2∨insBad cl nm l c x=3∨insBad cl nm l c x=4:=by
 unfold insBad
 (repeat' split)<;>simp
def MayPost(a:Nat→Addr)(w:World)(p:Prg)(e:Ending)(w':World):Prop:=∃v,e=.returned v∧ErrV a w' v (mayP p)∧Below w.heap.size w w'
theorem may_any(a:Nat→Addr)(B:Nat)(w:World)(h:Sent w B all14 a)(hB:B≤w.heap.size)(Ac Am:Option Addr)(cc cm:Nat)(p:Prg)(hr:RdP w w.heap.size Ac Am p)(hp:POk p):
 Calls Tryz.prog 16 #[pv Ac cc Am cm p] w (MayPost a w p):=by
 have hcl:=hp.cl;have hms:=hp.ms;have c1:=fun o=>h.cellA hB (k:=1) (by decide) o
 simp only[gOf,sent]at c1
 by_cases hmany:manyP p
 ·have Hm:=eh (may_many hmany);have Hmany:=eh hmany;clear hmany;go_enter Tryz.func16,Tryz.ntmps16;go_wp2
  all_goals first
   |(go_ret;exact⟨_,rfl,by rw[Hm.out];exact .bare 0 (by decide),(Below.refl _ _).alloc (Nat.le_refl _) _⟩)
   |(exfalso;have hmm:=Hmany.out;unfold manyP at hmm;simp_all;omega)
 ·have h1:decide (12<(p.classes.length:Int))=false:=by unfold manyP at hmany;simp;omega
  have h2:p.methods≠[]:=by unfold manyP at hmany;intro e;rw[e]at hmany;simp at hmany
  have h3:decide (12<(p.methods.length:Int))=false:=by unfold manyP at hmany;simp;omega
  have h4:((p.methods.length:Int)==0)=false:=by simp[h2]
  have Hmany:=eh hmany;have hk:MayPost a w p=MayPost a w p:=rfl;have hP:∀f w' v,mayP p=f→ErrV a w' v f→Below w.heap.size w w'→MayPost a w p (.returned v) w':=fun f w' v e1 e2 e3=>⟨v,rfl,by rw[e1];exact e2,e3⟩
  have HP:=eh hP;clear hmany c1 hP hk;generalize MayPost a w p=Post at*;go_enter Tryz.func16,Tryz.ntmps16;go_wp2;have hp0:=Blk.new w 31 #[.slice Ac p.classes.length cc,.slice Am p.methods.length cm];have hw0:Below w.heap.size w (w.alloc (.cells #[.slice Ac p.classes.length cc,.slice Am p.methods.length cm] 31)):=(Below.refl _ _).alloc (Nat.le_refl _) _;go_loopw [31] (fun iv wr=>∃k:Nat,k≤p.classes.length∧iv=.int .i64 k∧Hid (∀j,j<k→clsBad p j=none)∧Below w.heap.size w wr∧Blk wr w.heap.size 31 #[.slice Ac p.classes.length cc,.slice Am p.methods.length cm]) (fun iv _=>p.classes.length-(intOf iv).toNat)
  case atStart=>exact⟨0,Nat.zero_le _,rfl,eh (fun j hj=>by omega),hw0,hp0⟩
  case round=>
   obtain⟨k,hk,rfl,Hno,hb,hblk⟩:=hrel;have hz:=hb.size;have q0:=hblk.at0;have q1:=hblk.at1;have hbl:=hblk.lt
   by_cases hlt:k<p.classes.length
   ·obtain⟨b,off,hA,hbb,c1⟩:=str_at (hr.cl.below hb (Nat.le_refl _)) hlt;have hfs:=hp.fs k hlt;have hcb:clsBad p k=some_ (if 10<(p.classes.getD k ⟨#[]⟩).size then 1 else if lettersB (p.classes.getD k ⟨#[]⟩)=false then 2 else 0) [(k:Int),-1]:=rfl;generalize p.classes.getD k ⟨#[]⟩=s at*;have k0:(0:Int)≤k:=by omega
    have k1:(k:Int)<p.classes.length:=by omega
    subst hA
    by_cases hs:10<s.size
    ·have hs1:decide (10<(s.size:Int))=true:=by simp;omega
     have Hcb:=eh (show clsBad p k=some (1,[(k:Int),-1]) by rw[hcb,if_pos hs];rfl);clear hcb hs;have e1:=fun o=>(h.below hb hB).cellA (Nat.le_trans hB hz) (k:=1) (by decide) o
     simp only[gOf,sent]at e1;go_wp2;refine HP.out _ _ _ (may_cls Hmany.out hlt Hno.out Hcb.out) (.there 0 _ _ _ (by decide) (Blk.newAt ?_ _ _)) ?_
     ·simp
     ·exact(hb.alloc hz _).alloc (by simp;omega) _
    ·have hs1:decide (10<(s.size:Int))=false:=by simp;omega
     have hl:=fun W=>letters_any s W hfs
     cases hlet:lettersB s with
     |false=>
      have Hcb:=eh (show clsBad p k=some (2,[(k:Int),-1]) by rw[hcb,if_neg hs,if_pos hlet];rfl);rw[hlet]at hl;have Hl:=eh hl;clear hcb hs hlet hl;go_wp2_with fail;refine(Hl.out _).mono ?_;rintro e w1 ⟨rfl,hb1⟩;have hbw:=(hb.alloc hz _).trans (hb1.mono (by simp;omega));have hzw:=hbw.size;have e1:=fun o=>(h.below hbw hB).cellA (Nat.le_trans hB hzw) (k:=2) (by decide) o
      simp only[gOf,sent]at e1;have e2:=((h.below hbw hB).cell 2 (by decide)).2;simp only[gOf,sent]at e2;go_wp2;refine HP.out _ _ _ (may_cls Hmany.out hlt Hno.out Hcb.out) (.there 1 _ _ _ (by decide) (Blk.newAt ?_ _ _)) ?_
      ·simp
      ·exact hbw.alloc hzw _
     |true=>
      have Hcb:=eh (show clsBad p k=none by rw[hcb,if_neg hs,if_neg (by simp[hlet])];rfl);rw[hlet]at hl;have Hl:=eh hl;clear hcb hs hlet hl;go_wp2_with fail;refine(Hl.out _).mono ?_;rintro e w1 ⟨rfl,hb1⟩;have hbw:=(hb.alloc hz _).trans (hb1.mono (by simp;omega));have hbk:=(hblk.alloc _).below hb1 (by simp;omega);go_wp2;go_roundw
      case rel=>exact⟨k+1,by omega,by go_num,eh (next_none Hno.out Hcb.out),hbw,hbk⟩
      case measure=>simp[intOf];omega
   ·have e:k=p.classes.length:=by omega
    have Hcls:=eh (fun j (hj:j<p.classes.length)=>Hno.out j (by omega));have hge:¬(k:Int)<p.classes.length:=by omega
    clear Hno e hlt hk;go_wp2;clear hge hp0 hw0;obtain⟨wo,hwo⟩:∃wo:World,wo=wr:=⟨_,rfl⟩;rw[←hwo]at hb hblk⊢;clear hwo hz q0 q1 hbl;go_loopw [60] (fun iv wr=>∃i:Nat,i≤p.methods.length∧iv=.int .i64 i∧Hid (∀j,j<i→mthBad p j=none)∧Below w.heap.size w wr∧Blk wr w.heap.size 31 #[.slice Ac p.classes.length cc,.slice Am p.methods.length cm]) (fun iv _=>p.methods.length-(intOf iv).toNat)
    case atStart=>exact⟨0,Nat.zero_le _,rfl,eh (fun j hj=>by omega),hb,hblk⟩
    case round=>
     obtain⟨i,hi,rfl,Hno,hb2,hblk2⟩:=hrel;clear hb hblk;have hz:=hb2.size;have q0:=hblk2.at0;have q1:=hblk2.at1;have hbl:=hblk2.lt
     by_cases hlt:i<p.methods.length
     ·obtain⟨b,off,Ai,ci,hA,hbb,m0,m1,m2,m3,hcode⟩:=mth_at (hr.ms.below hb2 (Nat.le_refl _)) hlt;have hmk:=hp.m i hlt;have Hhead:=eh (fun e=>mth_head (p:=p) (k:=i) (e:=e));have Hcode:=eh (fun pc f=>mth_code (p:=p) (k:=i) (pc:=pc) (f:=f));have Hok:=eh (mth_ok (p:=p) (k:=i));have Hsm:=eh (fun(he:uR (p.methods.getD i default) (decide (i=0))=0)=>head_small he);generalize p.methods.getD i default=m at*;have k0:(0:Int)≤i:=by omega
      have k1:(i:Int)<p.methods.length:=by omega
      subst hA;have hhd:=fun W hW hB'=>head_any a B W (h:=hW) (hB:=hB') Ai ci m hmk (decide (i=0))
      have hle:=headBad_le m (decide (i=0));have hi0:((i:Int)==0)=decide (i=0):=by rw[Bool.eq_iff_iff];simp
      have hwm:=hb2.alloc hz (.cells #[.string m.pa,.string m.lo,.string m.re,.slice Ai m.code.length ci] 27);have hblm:=hblk2.alloc (.cells #[.string m.pa,.string m.lo,.string m.re,.slice Ai m.code.length ci] 27);have hmm:=Blk.new wr 27 #[.string m.pa,.string m.lo,.string m.re,.slice Ai m.code.length ci];have hcode':=hcode.alloc hz (.cells #[.string m.pa,.string m.lo,.string m.re,.slice Ai m.code.length ci] 27);rcases Nat.eq_zero_or_pos (uR m (decide (i=0)))with hd0|hd0
      ·rw[hd0]at hhd;simp only[errV]at hhd;have Hhd:=eh hhd;have hsm:=Hsm.out hd0;have Hd0:=eh hd0;clear hhd hd0 hle;go_wp2_with fail;refine(Hhd.out _ (h.below hwm hB) (Nat.le_trans hB hwm.size)).mono ?_;rintro e w1 ⟨rfl,hb1⟩;have hw1:=hwm.trans (hb1.mono hwm.size);have hp1:=hblm.below hb1 hblm.lt;have hm1:=hmm.below hb1 hmm.lt;have hcd:=hcode'.below hb1 (Nat.le_trans hz (by simp));clear hwm hblm hmm hcode' hb1 hb2 hblk2 hz q0 q1 m0 m1 m2 m3 hcode;have x3:=hm1.at3;have hml:=hm1.lt;have hrc:=hr.cl.below hw1 (Nat.le_refl _);have hz1:=hw1.size;have hcd1:=hcd.more hz1;have hmc:=hmk.code;clear hcd;generalize hgm:wr.heap.size=gm at*;clear hgm;go_wp2;go_loopw [79] (fun iv wr=>∃pc:Nat,pc≤m.code.length∧iv=.int .i64 pc∧Hid (∀j,j<pc→codeBad p m i j=none)∧Below w1.heap.size w1 wr) (fun iv _=>m.code.length-(intOf iv).toNat)
       case atStart=>exact⟨0,Nat.zero_le _,rfl,eh (fun j hj=>by omega),Below.refl _ _⟩
       case round=>
        obtain⟨pc,hpc,rfl,Hnc,hb3⟩:=hrel;have hw3:=hw1.trans (hb3.mono hz1);have hz3:=hb3.size;have hp3:=hp1.below hb3 hp1.lt;have hm3:=hm1.below hb3 hm1.lt;have p0:=hp3.at0;have p1:=hp3.at1;have y0:=hm3.at0;have y1:=hm3.at1;have y2:=hm3.at2;have y3:=hm3.at3;have hpl:=hp3.lt;have hml3:=hm3.lt
        by_cases hlt2:pc<m.code.length
        ·obtain⟨b2,off2,hA2,hbb2,x0,x1,x2,x3⟩:=ins_at (hcd1.below hb3 (Nat.le_refl _)) hlt2;have hcb:codeBad p m i pc=some_ (insBad p.classes p.methods.length (m.pa.size+m.lo.size) m.code.length (m.code.getD pc default)) [(i:Int),(pc:Int)]:=rfl;generalize m.code.getD pc default=x at*;subst hA2;have j0:(0:Int)≤pc:=by omega
         have j1:(pc:Int)<m.code.length:=by omega
         have hle:=insBad_le p.classes p.methods.length (m.pa.size+m.lo.size) m.code.length x;have hwx:=hw3.alloc (Nat.le_trans hz1 hz3) (.cells #[.int .i64 x.op,.int .i64 x.a,.int .i64 x.b,.int .i64 x.n] 24);have hrx:=(((hrc.more hz1).below hb3 (Nat.le_refl _)).more hz3).alloc (Nat.le_refl _) (.cells #[.int .i64 x.op,.int .i64 x.a,.int .i64 x.b,.int .i64 x.n] 24);have hin:=fun W hW hB' hr'=>instr_any a B W (h:=hW) (hB:=hB') Ac (some ⟨b,off,none⟩) cc cm p hr' hp (some ⟨b2,off2,none⟩) ci m (by omega) hmk.code x
         rcases Nat.eq_zero_or_pos (insBad p.classes p.methods.length (m.pa.size+m.lo.size) m.code.length x)with hd0|hd0
         ·rw[hd0]at hin hcb;simp only[errV]at hin;have Hin:=eh hin;have Hcb:=eh hcb;clear hin hd0 hle hcb;go_wp2_with fail;refine(Hin.out _ (h.below hwx hB) (Nat.le_trans hB hwx.size) (hrx.more (by simp))).mono ?_;rintro e w4 ⟨rfl,hb4⟩;go_wp2;go_roundw
          case rel=>exact⟨pc+1,by omega,by go_num,eh (next_none Hnc.out Hcb.out),(hb3.alloc hz3 _).trans (hb4.mono (by simp;omega))⟩
          case measure=>simp[intOf];omega
         ·obtain⟨ee,hee⟩:∃ee,insBad p.classes p.methods.length (m.pa.size+m.lo.size) m.code.length x=ee+1:=⟨insBad p.classes p.methods.length (m.pa.size+m.lo.size) m.code.length x-1,by omega⟩;have hmem:ee+1∈all14:=mem4 (by omega);rw[hee]at hin hcb;have Hmb:=eh (Hcode.out pc (ee+1,[(i:Int),(pc:Int)]) Hd0.out hlt2 Hnc.out hcb);have Hin:=eh hin;clear hin hd0 hle hee hcb;unfold errV sent at Hin;go_wp2_with fail;refine(Hin.out _ (h.below hwx hB) (Nat.le_trans hB hwx.size) (hrx.more (by simp))).mono ?_;rintro e w4 ⟨rfl,hb4⟩;have hw4:=hwx.trans (hb4.mono hwx.size);have hz4:=hw4.size;go_wp2;refine HP.out _ _ _ (may_mth Hmany.out Hcls.out hlt Hno.out Hmb.out) (.there ee _ _ _ hmem (Blk.newAt ?_ _ _)) ?_
          ·simp
          ·exact hw4.alloc hz4 _
        ·have hge:¬(pc:Int)<m.code.length:=by omega
         have Hmo:=eh (Hok.out Hd0.out (fun j hj=>Hnc.out j (by omega)));clear hlt2;go_wp2;go_roundw
         case rel=>exact⟨i+1,by omega,by go_num,eh (next_none Hno.out Hmo.out),hw3,hp3⟩
         case measure=>simp[intOf];omega
      ·obtain⟨ee,hee⟩:∃ee,uR m (decide (i=0))=ee+1:=⟨uR m (decide (i=0))-1,by omega⟩;have Hmb:=eh (Hhead.out ee hee);have hmem:ee+1∈all14:=mem4 (by omega);rw[hee]at hhd;have Hhd:=eh hhd;clear hhd hd0 hle hee;unfold errV sent at Hhd;go_wp2_with fail;refine(Hhd.out _ (h.below hwm hB) (Nat.le_trans hB hwm.size)).mono ?_;rintro e w1 ⟨rfl,hb1⟩;have hw1:=hwm.trans (hb1.mono hwm.size);have hz1:=hw1.size;go_wp2;refine HP.out _ _ _ (may_mth Hmany.out Hcls.out hlt Hno.out Hmb.out) (.there ee _ _ _ hmem (Blk.newAt ?_ _ _)) ?_
       ·simp
       ·exact hw1.alloc hz1 _
     ·have hge:¬(i:Int)<p.methods.length:=by omega
      have Hmy:=eh (may_ok Hmany.out Hcls.out (fun j hj=>Hno.out j (by omega)));clear hlt;go_wp2;exact HP.out _ _ _ Hmy.out .nil hb2
theorem some_ne{k:Nat}{l:List Int}{f:Flt}(h:some_ k l=some f):f.1≠0:=by
 unfold some_ at h;split at h
 ·cases h
 ·cases h;assumption
theorem firstOf_ex{α:Type}{f:Nat→Option α}{n:Nat}{x:α}(h:firstOf f n=some x):∃j,f j=some x:=by
 unfold firstOf at h;obtain⟨j,_,hj⟩:=List.exists_of_findSome?_eq_some h;exact⟨j,hj⟩
theorem firstOf_all{α:Type}{f:Nat→Option α}{n:Nat}(h:firstOf f n=none):∀j,j<n→f j=none:=fun j hj=>by
 unfold firstOf at h;rw[List.findSome?_eq_none_iff]at h;exact h j (List.mem_range.2 hj)
theorem cls_ne{p:Prg}{j:Nat}{f:Flt}(h:clsBad p j=some f):f.1≠0:=some_ne h
theorem mth_ne{p:Prg}{j:Nat}{f:Flt}(h:mthBad p j=some f):f.1≠0:=by
 unfold mthBad at h;simp only at h;cases h1:some_ (uR (p.methods.getD j default) (decide (j=0))) [(j:Int),-1]with
 |some g=>
  rw[h1]at h;cases h;exact some_ne h1
 |none=>
  rw[h1]at h;obtain⟨i,hi⟩:=firstOf_ex (by simpa using h);exact some_ne hi
structure Fair(p:Prg):Prop where
 many:¬manyP p
 cls:∀j,j<p.classes.length→(p.classes.getD j ⟨#[]⟩).size≤10
 head:∀j,j<p.methods.length→uR (p.methods.getD j default) (decide (j=0))=0
 ins:∀j,j<p.methods.length→∀k,k<(p.methods.getD j default).code.length→insBad p.classes p.methods.length ((p.methods.getD j default).pa.size+(p.methods.getD j default).lo.size) (p.methods.getD j default).code.length ((p.methods.getD j default).code.getD k default)=0
theorem some_none{k:Nat}{l:List Int}(h:some_ k l=none):k=0:=by
 unfold some_ at h;split at h
 ·assumption
 ·cases h
theorem fair_of{p:Prg}(h:(mayP p).1=0):Fair p:=by
 by_cases hm:manyP p
 ·rw[may_many hm]at h;cases h
 ·unfold mayP at h;unfold manyP at hm;rw[if_neg hm]at h;cases h1:firstOf (clsBad p) p.classes.length with
  |some f=>
   rw[h1]at h;obtain⟨j,hj⟩:=firstOf_ex h1;exact absurd (by simpa using h) (cls_ne hj)
  |none=>
   rw[h1]at h;cases h2:firstOf (mthBad p) p.methods.length with
   |some f=>
    rw[h2]at h;obtain⟨j,hj⟩:=firstOf_ex h2;exact absurd (by simpa using h) (mth_ne hj)
   |none=>
    have hc:=firstOf_all h1;have hmt:=firstOf_all h2;have hhead:∀j,j<p.methods.length→uR (p.methods.getD j default) (decide (j=0))=0∧firstOf (codeBad p (p.methods.getD j default) j) (p.methods.getD j default).code.length=none:=fun j hj=>by
     have:=hmt j hj;unfold mthBad at this;simp only at this;cases h3:some_ (uR (p.methods.getD j default) (decide (j=0))) [(j:Int),-1]with
     |some g=>rw[h3]at this;cases this
     |none=>
      rw[h3]at this;exact⟨some_none h3,by simpa using this⟩
    refine⟨hm,fun j hj=>?_,fun j hj=>(hhead j hj).1,fun j hj k hk=>?_⟩
    ·have:=some_none (hc j hj)
     by_cases hs:10<(p.classes.getD j ⟨#[]⟩).size
     ·rw[if_pos hs]at this;cases this
     ·omega
    ·exact some_none (firstOf_all (hhead j hj).2 k hk)
end Go.Proofs.YtgbgbmdiomhfiaaGreatDoor