/-
 PgSmall, PgRef, PgKinds, PgEff2, PgRefIns, PgEff3, Shelf3.
-/
import Derived.Deep.CutBlock
import Derived.Deep.RegionHeld3
import Derived.IntWalk
import Derived.Shelf.Slices.Reverse
import Derived.Shelf.Slices.Clone
import Derived.Test.YtgbgbmdiomhfiaaGreatDoorProg
import Derived.Test.YtgbgbmdiomhfiaaGreatDoorJPgFair
set_option linter.unusedSimpArgs false
set_option linter.unusedVariables false
set_option maxHeartbeats 8000000
set_option maxRecDepth 100000
namespace Go.Proofs.YtgbgbmdiomhfiaaGreatDoor
open Go.RowKit Go.Maps
def atB(s:ByteArray)(i:Int):ByteArray:=if inB i s.size=true then s.extract i.toNat (i.toNat+1)else⟨#[]⟩
def methodF(p:Prg)(m:Int):Mth:=if inB m p.methods.length=true then p.methods.getD m.toNat default else default
def fieldF(p:Prg)(c i:Int):ByteArray:=if inB c p.classes.length=true then atB (p.classes.getD c.toNat ⟨#[]⟩) i else⟨#[]⟩
theorem ret_str{a b:ByteArray}(h:a=b):Ending.returned (.string a)=.returned (.string b):=by rw[h]
theorem at_str(s:ByteArray)(i:Int)(w:World)(hs:s.size≤9223372036854775807):
 Calls Tryz.prog 95 #[.string s,.int .i64 i] w fun e w'=>e=.returned (.string (atB s i))∧w=w':=by
 have hat:=eh (show atB s i=if inB i s.size=true then s.extract i.toNat (i.toNat+1)else⟨#[]⟩from rfl);cases hi:inB i s.size with
 |false=>
  rw[hi]at hat;go_enter Tryz.func95,Tryz.ntmps95;go_wp2_with (go_at_call 64;refine(in_any _ _ _).mono ?_;rintro e w' ⟨rfl,rfl⟩);go_ret;exact⟨ret_str (by rw[hat.out];rfl),rfl⟩
 |true=>
  rw[hi]at hat;have hx:=uJ hi;obtain⟨k,rfl⟩:∃k:Nat,i=k:=⟨i.toNat,by omega⟩;have hks:k<s.size:=by omega
  have k0:(0:Int)≤k:=by omega
  go_enter Tryz.func95,Tryz.ntmps95;go_wp2_with (go_at_call 64;refine(in_any _ _ _).mono ?_;rintro e w' ⟨rfl,rfl⟩);go_ret;exact⟨ret_str (by rw[hat.out];rfl),rfl⟩
def MethodPost(w:World)(m:Mth)(e:Ending)(w':World):Prop:=∃A c,e=.returned (mv A c m)∧Below w.heap.size w w'
theorem method_any(Ac Am:Option Addr)(cc cm:Nat)(p:Prg)(m:Int)(w:World)(hr:RdMs w w.heap.size Am p.methods)(_:p.methods.length≤9223372036854775807):
 Calls Tryz.prog 94 #[pv Ac cc Am cm p,.int .i64 m] w (MethodPost w (methodF p m)):=by
 have hmf:=eh (show methodF p m=if inB m p.methods.length=true then p.methods.getD m.toNat default else default from rfl);cases hi:inB m p.methods.length with
 |false=>
  rw[hi]at hmf;rw[hmf.out];go_enter Tryz.func94,Tryz.ntmps94;go_wp2_with (go_at_call 64;refine(in_any _ _ _).mono ?_;rintro e w' ⟨rfl,rfl⟩);exact bodyPost_ret (v:=mv none 0 default) (by simp[results,Tryz.results94,go_sem,default]) rfl ⟨_,_,rfl,((Below.refl _ _).alloc (Nat.le_refl _) _).alloc (by simp) _⟩
 |true=>
  rw[hi]at hmf;rw[hmf.out];have hx:=uJ hi;obtain⟨k,rfl⟩:∃k:Nat,m=k:=⟨m.toNat,by omega⟩;have hks:k<p.methods.length:=by omega
  have k0:(0:Int)≤k:=by omega
  obtain⟨b,off,Ai,ci,rfl,hbb,m0,m1,m2,m3,_⟩:=mth_at hr hks;simp only[Int.toNat_natCast,if_true];generalize p.methods.getD k default=mm at*;go_enter Tryz.func94,Tryz.ntmps94;go_wp2_with (go_at_call 64;refine(in_any _ _ _).mono ?_;rintro e w' ⟨rfl,rfl⟩);exact bodyPost_ret (v:=mv Ai ci mm) (by simp[results,Tryz.results94,go_sem]) rfl ⟨_,_,rfl,((Below.refl _ _).alloc (Nat.le_refl _) _).alloc (by simp) _⟩
theorem field_any(Ac Am:Option Addr)(cc cm:Nat)(p:Prg)(m i:Int)(w:World)(hr:Rd w w.heap.size 1 Ac p.classes.length (p.classes.map Value.string))(hp:POk p):
 Calls Tryz.prog 96 #[pv Ac cc Am cm p,.int .i64 m,.int .i64 i] w fun e w'=>e=.returned (.string (fieldF p m i))∧Below w.heap.size w w':=by
 have hcl:=hp.cl;have hmf:=eh (show fieldF p m i=if inB m p.classes.length=true then atB (p.classes.getD m.toNat ⟨#[]⟩) i else⟨#[]⟩from rfl);cases hi:inB m p.classes.length with
 |false=>
  rw[hi]at hmf;go_enter Tryz.func96,Tryz.ntmps96;go_wp2_with (go_at_call 64;refine(in_any _ _ _).mono ?_;rintro e w' ⟨rfl,rfl⟩);go_ret;exact⟨ret_str (by rw[hmf.out];rfl),(Below.refl _ _).alloc (Nat.le_refl _) _⟩
 |true=>
  rw[hi]at hmf;have hx:=uJ hi;obtain⟨k,rfl⟩:∃k:Nat,m=k:=⟨m.toNat,by omega⟩;have hks:k<p.classes.length:=by omega
  have k0:(0:Int)≤k:=by omega
  obtain⟨b,off,rfl,hbb,c1⟩:=str_at hr hks;have hfs:=hp.fs k hks;have hmf2:=hmf.out;simp only[Int.toNat_natCast,if_true]at hmf2;have Hmf:=eh hmf2;clear hmf hmf2;generalize p.classes.getD k ⟨#[]⟩=s at*;go_enter Tryz.func96,Tryz.ntmps96;go_wp2_with (first|(go_at_call 64;refine(in_any _ _ _).mono ?_;rintro e w' ⟨rfl,rfl⟩)|(go_at_call 95;refine(at_str s i _ hfs).mono ?_;rintro e w' ⟨rfl,rfl⟩));go_ret;exact⟨ret_str (by rw[Hmf.out]),(Below.refl _ _).alloc (Nat.le_refl _) _⟩
def TherePost(w:World)(c m pc:Int)(e:Ending)(w':World):Prop:=∃g,e=.returned (.agg #[.int .i64 c,.slice (some ⟨g,0,none⟩) 2 2])∧Blk w' g 3 #[.int .i64 m,.int .i64 pc]∧Below w.heap.size w w'
theorem there_any(c m pc:Int)(w:World):Calls Tryz.prog 70 #[.int .i64 c,.int .i64 m,.int .i64 pc] w (TherePost w c m pc):=by
 go_enter Tryz.func70,Tryz.ntmps70;go_wp2;exact bodyPost_ret (v:=.agg #[.int .i64 c,.slice (some ⟨w.heap.size+1,0,none⟩) 2 2]) (by simp[results,Tryz.results70,go_sem]) rfl ⟨_,rfl,Blk.newAt (by simp) _ _,((Below.refl _ _).alloc (Nat.le_refl _) _).alloc (by simp) _⟩
def isLet(c:UInt8):Bool:=c==73||c==82
theorem let_snoc(s:ByteArray)(k:Nat)(h:k<s.size):(s.data.toList.take (k+1)).all isLet=((s.data.toList.take k).all isLet&&isLet s[k]):=by
 rw[List.take_succ_eq_append_getElem (by simpa using h),List.all_append];simp;rfl
theorem let_no{l:List UInt8}{k:Nat}(h:(l.take k).all isLet=false):l.all isLet=false:=by
 rw[←List.take_append_drop k l,List.all_append,h];rfl
theorem rletters_any(s:ByteArray)(w:World)(hs:s.size≤9223372036854775807):
 Calls Tryz.prog 71 #[.string s] w fun e w'=>e=.returned (.bool (lettersB s))∧w=w':=by
 have hL:lettersB s=s.data.toList.all isLet:=rfl;have HL:=eh hL;clear hL;go_enter Tryz.func71,Tryz.ntmps71;go_wp2;go_loop [3] (fun i=>∃k:Nat,k≤s.size∧i=.int .i64 k∧Hid ((s.data.toList.take k).all isLet=true)) (fun i=>s.size-(intOf i).toNat)
 case atStart=>exact⟨0,Nat.zero_le _,rfl,eh rfl⟩
 case round=>
  obtain⟨k,hk,rfl,Hk⟩:=hrel
  by_cases hlt:k<s.size
  ·have Hn:=eh (let_snoc s k hlt);have k0:(0:Int)≤k:=by omega
   by_cases h73:s[k]=73
   ·have f1:((s[k].toNat:Int) != 73)=false:=by simp[h73]
    have Hx:=eh (show isLet s[k]=true by rw[h73];rfl);clear h73;go_wp2;go_round
    case rel=>exact⟨k+1,by omega,by go_num,eh (by rw[Hn.out,Hk.out,Hx.out];rfl)⟩
    case measure=>simp[intOf];omega
   ·have f1:((s[k].toNat:Int) != 73)=true:=by
     have :s[k].toNat≠73:=fun e=>h73 (UInt8.toNat_inj.1 e)
     simp;omega
    by_cases h82:s[k]=82
    ·have f2:((s[k].toNat:Int) != 82)=false:=by simp[h82]
     have Hx:=eh (show isLet s[k]=true by rw[h82];rfl);clear h73 h82;go_wp2;go_round
     case rel=>exact⟨k+1,by omega,by go_num,eh (by rw[Hn.out,Hk.out,Hx.out];rfl)⟩
     case measure=>simp[intOf];omega
    ·have f2:((s[k].toNat:Int) != 82)=true:=by
      have :s[k].toNat≠82:=fun e=>h82 (UInt8.toNat_inj.1 e)
      simp;omega
     have Hx:=eh (show isLet s[k]=false by unfold isLet;simp[h73,h82]);clear h73 h82;go_wp2;go_ret;exact⟨uV (by rw[HL.out];exact(let_no (k:=k+1) (by rw[Hn.out,Hx.out,Bool.and_false])).symm),rfl⟩
  ·have e:k=s.size:=by omega
   go_wp2;go_ret;refine⟨uV ?_,rfl⟩;rw[HL.out,←Hk.out,List.take_of_length_le (by simp;omega)]
theorem rusesB_any(op:Int)(w:World):Calls Tryz.prog 107 #[.int .i64 op] w fun e w'=>e=.returned (.bool (usesB op))∧w'=w:=by
 have h:usesB op=decide (op=25∨op=26):=rfl;have H:=eh h;clear h;go_enter Tryz.func107,Tryz.ntmps107;go_wp2
 all_goals
  go_ret;refine⟨uV ?_,rfl⟩;rw[H.out,Bool.eq_iff_iff]
  simp_all
theorem rusesA_any(op:Int)(w:World):Calls Tryz.prog 108 #[.int .i64 op] w fun e w'=>e=.returned (.bool (usesA op))∧w'=w:=by
 have h:usesA op=decide (op∈opsA):=rfl;have H:=eh h;clear h;go_enter Tryz.func108,Tryz.ntmps108;go_wp2
 all_goals
  go_ret;refine⟨uV ?_,rfl⟩;rw[H.out,Bool.eq_iff_iff]
  simp_all [opsA]
theorem rusesB_eq{op:Int}{b:Bool}(h:usesB op=b)(w:World):Calls Tryz.prog 107 #[.int .i64 op] w fun e w'=>e=.returned (.bool b)∧w'=w:=by subst h;exact rusesB_any op w
theorem rkinds_any(A:Option Addr)(c:Nat)(m:Mth)(w:World)(hm:m.pa.size+m.lo.size≤1000):
 Calls Tryz.prog 145 #[mv A c m] w fun e w'=>e=.returned (.string (m.pa++m.lo))∧Below w.heap.size w w':=by
 go_enter Tryz.func145,Tryz.ntmps145;have hk:¬9223372036854775807<m.pa.size+m.lo.size:=by omega
 go_wp2;go_ret;exact⟨rfl,(Below.refl _ _).alloc (Nat.le_refl _) _⟩
def sE:ByteArray:=⟨#[]⟩
def sI:ByteArray:=⟨#[73]⟩
def sR:ByteArray:=⟨#[82]⟩
def sII:ByteArray:=⟨#[73,73]⟩
def sRR:ByteArray:=⟨#[82,82]⟩
def sRI:ByteArray:=⟨#[82,73]⟩
def sIRs:ByteArray:=⟨#[73,82]⟩
abbrev Eff:=ByteArray×ByteArray×Bool
def effF(p:Prg)(mine:Mth)(x:Ins):Eff:=
 if 8≤x.op∧x.op≤20∧x.op≠18 then(sII,sI,true)
 else if x.op=1∨x.op=34 then(sE,sI,true)
 else if x.op=2∨x.op=24 then(sE,sR,true)
 else if x.op=3 then(sE,atB (mine.pa++mine.lo) x.a,true)
 else if x.op=4 then(atB (mine.pa++mine.lo) x.a,sE,true)
 else if x.op=18 then(sI,sI,true)
 else if x.op=21 then(sRR,sI,true)
 else if x.op=22 then(sE,sE,true)
 else if x.op=23∨x.op=35 then(sI,sE,true)
 else if x.op=25 then(sR,fieldF p x.a x.b,true)
 else if x.op=26 then(sR++fieldF p x.a x.b,sE,true)
 else if x.op=27∨x.op=31 then(sR,sI,true)
 else if x.op=28 then(sI,sR,true)
 else if x.op=29 then(sRI,atB sIRs x.a,true)
 else if x.op=30 then(sRI++atB sIRs x.a,sE,true)
 else if x.op=32 then((methodF p x.a).pa,(methodF p x.a).re,true)
 else if x.op=33 then(mine.re,sE,true)
 else(sE,sE,false)
def EffPost(w:World)(f:Eff)(e:Ending)(w':World):Prop:=e=.returned (.tuple #[.string f.1,.string f.2.1,.bool f.2.2])∧Below w.heap.size w w'
theorem atB_le(s:ByteArray)(i:Int):(atB s i).size≤1:=by
 unfold atB;split
 ·rw[ByteArray.size_extract];omega
 ·decide
theorem fieldF_le(p:Prg)(c i:Int):(fieldF p c i).size≤1:=by
 unfold fieldF;split
 ·exact atB_le _ _
 ·decide
theorem effect_any(Ac Am:Option Addr)(cc cm:Nat)(p:Prg)(x:Ins)(m:Int)(w:World)(hr:RdP w w.heap.size Ac Am p)(hp:POk p)(hk:(methodF p m).pa.size+(methodF p m).lo.size≤1000):
 Calls Tryz.prog 62 #[pv Ac cc Am cm p,.int .i64 m,iv x] w (EffPost w (effF p (methodF p m) x)):=by
 obtain⟨op,xa,xb,xn⟩:=x;have hmt:=method_any Ac Am cc cm p m;have hmt2:=method_any Ac Am cc cm p xa;have hft:=field_any Ac Am cc cm p xa xb;have Hmt:=eh hmt;have Hmt2:=eh hmt2;have Hft:=eh hft;have hfs:=fieldF_le p xa xb;have has:=atB_le sIRs xa;clear hmt hmt2 hft;have HE:=eh (show effF p (methodF p m) ⟨op,xa,xb,xn⟩=effF p (methodF p m) ⟨op,xa,xb,xn⟩from rfl);have hPP:∀f w',effF p (methodF p m) ⟨op,xa,xb,xn⟩=f→Below w.heap.size w w'→EffPost w (effF p (methodF p m) ⟨op,xa,xb,xn⟩) (.returned (.tuple #[.string f.1,.string f.2.1,.bool f.2.2])) w':=fun f w' e h=>by rw[e];exact⟨rfl,h⟩
 have HP:=eh hPP;clear hPP HE;generalize EffPost w (effF p (methodF p m) ⟨op,xa,xb,xn⟩)=Post at*;go_enter Tryz.func62,Tryz.ntmps62;have hw2:Below w.heap.size w ((w.alloc (.cells #[.slice Ac p.classes.length cc,.slice Am p.methods.length cm] 31)).alloc (.cells #[.int .i64 op,.int .i64 xa,.int .i64 xb,.int .i64 xn] 24)):=((Below.refl _ _).alloc (Nat.le_refl _) _).alloc (by simp) _;have hbp:=(Blk.new w 31 #[.slice Ac p.classes.length cc,.slice Am p.methods.length cm]).alloc (.cells #[.int .i64 op,.int .i64 xa,.int .i64 xb,.int .i64 xn] 24);have hbx:=Blk.newAt (w:=w.alloc (.cells #[.slice Ac p.classes.length cc,.slice Am p.methods.length cm] 31)) (g:=w.heap.size+1) (by simp) 24 #[.int .i64 op,.int .i64 xa,.int .i64 xb,.int .i64 xn];go_wp2_with fail;refine(Hmt.out _ ((hr.ms.below hw2 (Nat.le_refl _)).more hw2.size) hp.ms).mono ?_;rintro e w1 ⟨A1,c1,rfl,hb1⟩;generalize methodF p m=mine at*;have hw1:=(hw2.trans (hb1.mono hw2.size)).alloc (Nat.le_trans hw2.size hb1.size) (.cells #[.string mine.pa,.string mine.lo,.string mine.re,.slice A1 mine.code.length c1] 27);have dP:=(hbp.below hb1 hbp.lt).alloc (.cells #[.string mine.pa,.string mine.lo,.string mine.re,.slice A1 mine.code.length c1] 27);have dX:=(hbx.below hb1 hbx.lt).alloc (.cells #[.string mine.pa,.string mine.lo,.string mine.re,.slice A1 mine.code.length c1] 27);have dM:=Blk.new w1 27 #[.string mine.pa,.string mine.lo,.string mine.re,.slice A1 mine.code.length c1];clear hw2 hbp hbx hb1;go_upto_region 2 with(fail);generalize w1.alloc (.cells #[.string mine.pa,.string mine.lo,.string mine.re,.slice A1 mine.code.length c1] 27)=w3 at*;generalize w1.heap.size=gm at*;have p0:=dP.at0;have p1:=dP.at1;have i0:=dX.at0;have i1:=dX.at1;have i2:=dX.at2;have i3:=dX.at3;have m0:=dM.at0;have m1:=dM.at1;have m2:=dM.at2;have m3:=dM.at3;have lP:=dP.lt;have lX:=dX.lt;have lM:=dM.lt;have hz:=hw1.size;have hrc:=eh ((hr.cl.below hw1 (Nat.le_refl _)).more hz);have hrm:=eh ((hr.ms.below hw1 (Nat.le_refl _)).more hz);have hks:(mine.pa++mine.lo).size≤9223372036854775807:=by rw[ByteArray.size_append];omega
 clear hr
 by_cases hA:8≤op∧op≤20∧op≠18
 ·have Hf:=eh (show effF p mine ⟨op,xa,xb,xn⟩=(sII,sI,true) by unfold effF;rw[if_pos hA]);obtain⟨a1,a2,a3⟩:=hA;have g1:decide (8≤op)=true:=by simpa using a1
  have g2:decide (op≤20)=true:=by simpa using a2
  have g3:(op != 18)=true:=by simpa using a3
  clear a1 a2 a3;go_wp2;go_ret3;exact HP.out _ _ Hf.out hw1
 have hc:op=1∨op=2∨op=3∨op=4∨op=18∨op=21∨op=22∨op=23∨op=24∨op=25∨op=26∨op=27∨op=28∨op=29∨op=30∨op=31∨op=32∨op=33∨op=34∨op=35∨(op≠1∧op≠2∧op≠3∧op≠4∧op≠18∧op≠21∧op≠22∧op≠23∧op≠24∧op≠25∧op≠26∧op≠27∧op≠28∧op≠29∧op≠30∧op≠31∧op≠32∧op≠33∧op≠34∧op≠35):=by omega
 rcases hc with rfl|rfl|rfl|rfl|rfl|rfl|rfl|rfl|rfl|rfl|rfl|rfl|rfl|rfl|rfl|rfl|rfl|rfl|rfl|rfl|⟨n1,n2,n3,n4,n18,n21,n22,n23,n24,n25,n26,n27,n28,n29,n30,n31,n32,n33,n34,n35⟩
 ·have Hf:=eh (show effF p mine ⟨1,xa,xb,xn⟩=(sE,sI,true)from rfl);clear hA;go_wp2;go_ret3;exact HP.out _ _ Hf.out hw1
 ·have Hf:=eh (show effF p mine ⟨2,xa,xb,xn⟩=(sE,sR,true)from rfl);clear hA;go_wp2;go_ret3;exact HP.out _ _ Hf.out hw1
 ·have Hf:=eh (show effF p mine ⟨3,xa,xb,xn⟩=(sE,atB (mine.pa++mine.lo) xa,true)from rfl);clear hA;go_wp2;go_region_held3 (fun w'=>w'.cell? ⟨gm,0,none⟩=some (.string mine.pa)∧w'.cell? ⟨gm,1,none⟩=some (.string mine.lo)∧w'.cell? ⟨gm,2,none⟩=some (.string mine.re)∧w'.cell? ⟨gm,3,none⟩=some (.slice A1 mine.code.length c1)∧w'.cell? ⟨w.heap.size+1,1,none⟩=some (.int .i64 xa))
   (first|exact⟨m0,m1,m2,m3,i1⟩|exact⟨(dM.drew.below hb lM).at0,(dM.drew.below hb lM).at1,(dM.drew.below hb lM).at2,(dM.drew.below hb lM).at3,(dX.drew.below hb lX).at1⟩)
   (first|(go_at_call 28;refine(kinds_any _ _ _ _ hk).mono ?_;rintro e w' ⟨rfl,hb⟩)|(go_at_call 95;refine(at_str _ _ _ hks).mono ?_;rintro e w' ⟨rfl,rfl⟩))
  go_wp2;go_ret3;exact HP.out _ _ Hf.out (hw1.drew.trans (hb.mono hz))
 ·have Hf:=eh (show effF p mine ⟨4,xa,xb,xn⟩=(atB (mine.pa++mine.lo) xa,sE,true)from rfl);clear hA;go_wp2;go_region_held3 (fun w'=>w'.cell? ⟨gm,0,none⟩=some (.string mine.pa)∧w'.cell? ⟨gm,1,none⟩=some (.string mine.lo)∧w'.cell? ⟨gm,2,none⟩=some (.string mine.re)∧w'.cell? ⟨gm,3,none⟩=some (.slice A1 mine.code.length c1)∧w'.cell? ⟨w.heap.size+1,1,none⟩=some (.int .i64 xa))
   (first|exact⟨m0,m1,m2,m3,i1⟩|exact⟨(dM.drew.below hb lM).at0,(dM.drew.below hb lM).at1,(dM.drew.below hb lM).at2,(dM.drew.below hb lM).at3,(dX.drew.below hb lX).at1⟩)
   (first|(go_at_call 28;refine(kinds_any _ _ _ _ hk).mono ?_;rintro e w' ⟨rfl,hb⟩)|(go_at_call 95;refine(at_str _ _ _ hks).mono ?_;rintro e w' ⟨rfl,rfl⟩))
  go_wp2;go_ret3;exact HP.out _ _ Hf.out (hw1.drew.trans (hb.mono hz))
 ·have Hf:=eh (show effF p mine ⟨18,xa,xb,xn⟩=(sI,sI,true)from rfl);clear hA;go_wp2;go_ret3;exact HP.out _ _ Hf.out hw1
 ·have Hf:=eh (show effF p mine ⟨21,xa,xb,xn⟩=(sRR,sI,true)from rfl);clear hA;go_wp2;go_ret3;exact HP.out _ _ Hf.out hw1
 ·have Hf:=eh (show effF p mine ⟨22,xa,xb,xn⟩=(sE,sE,true)from rfl);clear hA;go_wp2;go_ret3;exact HP.out _ _ Hf.out hw1
 ·have Hf:=eh (show effF p mine ⟨23,xa,xb,xn⟩=(sI,sE,true)from rfl);clear hA;go_wp2;go_ret3;exact HP.out _ _ Hf.out hw1
 ·have Hf:=eh (show effF p mine ⟨24,xa,xb,xn⟩=(sE,sR,true)from rfl);clear hA;go_wp2;go_ret3;exact HP.out _ _ Hf.out hw1
 ·have Hf:=eh (show effF p mine ⟨25,xa,xb,xn⟩=(sR,fieldF p xa xb,true)from rfl);clear hA;have hk1:¬9223372036854775807<(fieldF p xa xb).size+1:=by omega
  go_wp2_with (go_at_call 96;refine(Hft.out _ hrc.out hp).mono ?_;rintro e w4 ⟨rfl,hb4⟩);go_ret3;exact HP.out _ _ Hf.out (hw1.trans (hb4.mono hz))
 ·have Hf:=eh (show effF p mine ⟨26,xa,xb,xn⟩=(sR++fieldF p xa xb,sE,true)from rfl);clear hA;have hk1:¬9223372036854775807<(fieldF p xa xb).size+1:=by omega
  go_wp2_with (go_at_call 96;refine(Hft.out _ hrc.out hp).mono ?_;rintro e w4 ⟨rfl,hb4⟩);go_ret3;exact HP.out _ _ Hf.out (hw1.trans (hb4.mono hz))
 ·have Hf:=eh (show effF p mine ⟨27,xa,xb,xn⟩=(sR,sI,true)from rfl);clear hA;go_wp2;go_ret3;exact HP.out _ _ Hf.out hw1
 ·have Hf:=eh (show effF p mine ⟨28,xa,xb,xn⟩=(sI,sR,true)from rfl);clear hA;go_wp2;go_ret3;exact HP.out _ _ Hf.out hw1
 ·have Hf:=eh (show effF p mine ⟨29,xa,xb,xn⟩=(sRI,atB sIRs xa,true)from rfl);clear hA;have hk1:¬9223372036854775807<(atB sIRs xa).size+2:=by omega
  go_wp2_with (go_at_call 95;refine(at_str sIRs _ _ (by decide)).mono ?_;rintro e w4 ⟨rfl,rfl⟩);go_ret3;exact HP.out _ _ Hf.out hw1
 ·have Hf:=eh (show effF p mine ⟨30,xa,xb,xn⟩=(sRI++atB sIRs xa,sE,true)from rfl);clear hA;have hk1:¬9223372036854775807<(atB sIRs xa).size+2:=by omega
  go_wp2_with (go_at_call 95;refine(at_str sIRs _ _ (by decide)).mono ?_;rintro e w4 ⟨rfl,rfl⟩);go_ret3;exact HP.out _ _ Hf.out hw1
 ·have Hf:=eh (show effF p mine ⟨31,xa,xb,xn⟩=(sR,sI,true)from rfl);clear hA;go_wp2;go_ret3;exact HP.out _ _ Hf.out hw1
 ·have Hf:=eh (show effF p mine ⟨32,xa,xb,xn⟩=((methodF p xa).pa,(methodF p xa).re,true)from rfl);clear hA;go_wp2_with fail;refine(Hmt2.out _ hrm.out hp.ms).mono ?_;rintro e w4 ⟨A2,c2,rfl,hb4⟩;generalize methodF p xa=m2 at*;have hw4:=(hw1.trans (hb4.mono hz)).alloc (Nat.le_trans hz hb4.size) (.cells #[.string m2.pa,.string m2.lo,.string m2.re,.slice A2 m2.code.length c2] 27);go_wp2;go_quiet (fail);go_wp2;go_ret3;exact HP.out _ _ Hf.out (uC hw4 _)
 ·have Hf:=eh (show effF p mine ⟨33,xa,xb,xn⟩=(mine.re,sE,true)from rfl);clear hA;go_wp2;go_ret3;exact HP.out _ _ Hf.out hw1
 ·have Hf:=eh (show effF p mine ⟨34,xa,xb,xn⟩=(sE,sI,true)from rfl);clear hA;go_wp2;go_ret3;exact HP.out _ _ Hf.out hw1
 ·have Hf:=eh (show effF p mine ⟨35,xa,xb,xn⟩=(sI,sE,true)from rfl);clear hA;go_wp2;go_ret3;exact HP.out _ _ Hf.out hw1
 ·have Hf:=eh (show effF p mine ⟨op,xa,xb,xn⟩=(sE,sE,false) by unfold effF;rw[if_neg hA];simp[*]);have hg:decide (8≤op)=false∨decide (op≤20)=false∨(op != 18)=false:=by
   simp only[decide_eq_false_iff_not,bne_eq_false_iff_eq];omega
  have g1:(op==1)=false:=by simp;omega
  have g2:(op==2)=false:=by simp;omega
  have g3:(op==3)=false:=by simp;omega
  have g4:(op==4)=false:=by simp;omega
  have g18:(op==18)=false:=by simp;omega
  have g21:(op==21)=false:=by simp;omega
  have g22:(op==22)=false:=by simp;omega
  have g23:(op==23)=false:=by simp;omega
  have g24:(op==24)=false:=by simp;omega
  have g25:(op==25)=false:=by simp;omega
  have g26:(op==26)=false:=by simp;omega
  have g27:(op==27)=false:=by simp;omega
  have g28:(op==28)=false:=by simp;omega
  have g29:(op==29)=false:=by simp;omega
  have g30:(op==30)=false:=by simp;omega
  have g31:(op==31)=false:=by simp;omega
  have g32:(op==32)=false:=by simp;omega
  have g33:(op==33)=false:=by simp;omega
  have g34:(op==34)=false:=by simp;omega
  have g35:(op==35)=false:=by simp;omega
  clear hA n1 n2 n3 n4 n18 n21 n22 n23 n24 n25 n26 n27 n28 n29 n30 n31 n32 n33 n34 n35;rcases hg with hg|hg|hg
  ·go_wp2;go_ret3;exact HP.out _ _ Hf.out hw1
  ·go_wp2
   all_goals
    go_ret3;exact HP.out _ _ Hf.out hw1
  ·go_wp2
   all_goals
    go_ret3;exact HP.out _ _ Hf.out hw1
theorem in_not{i:Int}{n:Nat}(h:inB i n=false):i<0∨(n:Int)≤i:=by
 have :¬(0≤i∧i<n):=fun hh=>by
  rw[show inB i n=true by simp[inB,hh]]at h;cases h
 omega
theorem rinstr_nl(Ac Am:Option Addr)(cc cm:Nat)(p:Prg)(w:World)(hr:Rd w w.heap.size 1 Ac p.classes.length (p.classes.map Value.string))(hp:POk p)
 (A:Option Addr)(c:Nat)(m:Mth)(nl:Nat)(hnl:m.pa.size+m.lo.size=nl)(hnl1:nl≤1000)(_:m.code.length≤9223372036854775807)(x:Ins):
 Calls Tryz.prog 72 #[pv Ac cc Am cm p,mv A c m,iv x] w fun e w'=>e=.returned (.int .i64 (codeOf (insBad p.classes p.methods.length nl m.code.length x)))∧Below w.heap.size w w':=by
 have hout:x.op<1∨35<x.op→insBad p.classes p.methods.length nl m.code.length x=2:=fun h=>by unfold insBad;rw[if_pos h]
 have heq:=fun h1 h35=>insBad_eq p.classes p.methods.length nl m.code.length x h1 h35
 obtain⟨op,xa,xb,xn⟩:=x;simp only at hout heq;have Hout:=eh hout;have HeqF:=eh heq;clear heq hout;have hcl:=hp.cl;have hms:=hp.ms;have hpa:m.pa.size≤1000:=by omega
 have hlo:m.lo.size≤1000:=by omega
 go_enter Tryz.func72,Tryz.ntmps72;go_upto_region 2 with(fail);have b1:=(((Blk.new w 31 #[.slice Ac p.classes.length cc,.slice Am p.methods.length cm]).alloc (.cells #[.string m.pa,.string m.lo,.string m.re,.slice A m.code.length c] 27)).alloc (.cells #[.int .i64 op,.int .i64 xa,.int .i64 xb,.int .i64 xn] 24));have b2:=((Blk.newAt (w:=w.alloc (.cells #[.slice Ac p.classes.length cc,.slice Am p.methods.length cm] 31)) (g:=w.heap.size+1) (by simp) 27 #[.string m.pa,.string m.lo,.string m.re,.slice A m.code.length c]).alloc (.cells #[.int .i64 op,.int .i64 xa,.int .i64 xb,.int .i64 xn] 24));have b3:=(Blk.newAt (w:=(w.alloc (.cells #[.slice Ac p.classes.length cc,.slice Am p.methods.length cm] 31)).alloc (.cells #[.string m.pa,.string m.lo,.string m.re,.slice A m.code.length c] 27)) (g:=w.heap.size+1+1) (by simp) 24 #[.int .i64 op,.int .i64 xa,.int .i64 xb,.int .i64 xn]);have hw:Below w.heap.size w (((w.alloc (.cells #[.slice Ac p.classes.length cc,.slice Am p.methods.length cm] 31)).alloc (.cells #[.string m.pa,.string m.lo,.string m.re,.slice A m.code.length c] 27)).alloc (.cells #[.int .i64 op,.int .i64 xa,.int .i64 xb,.int .i64 xn] 24)):=(((Below.refl _ _).alloc (Nat.le_refl _) _).alloc (by simp) _).alloc (by simp;omega) _;generalize((w.alloc (.cells #[.slice Ac p.classes.length cc,.slice Am p.methods.length cm] 31)).alloc (.cells #[.string m.pa,.string m.lo,.string m.re,.slice A m.code.length c] 27)).alloc (.cells #[.int .i64 op,.int .i64 xa,.int .i64 xb,.int .i64 xn] 24)=w3 at*;have hr3:=hr.below hw (Nat.le_refl _);have hz3:w.heap.size+1+1<w3.heap.size:=b3.lt;have p0:=b1.at0;have p1:=b1.at1;have m0:=b2.at0;have m1:=b2.at1;have m2:=b2.at2;have m3:=b2.at3;have i0:=b3.at0;have i1:=b3.at1;have i2:=b3.at2;have i3:=b3.at3;have e7:(m.pa.size:Int)+m.lo.size=nl:=by omega
 rw[e7];clear e7 hnl hpa hlo m0 m1 m2
 by_cases h1:op<1
 ·have Ho:=eh (Hout.out (.inl h1));have f1:decide (op<1)=true:=by simp;omega
  clear h1;go_wp2;go_ret;exact⟨by rw[Ho.out];rfl,hw⟩
 by_cases h35:35<op
 ·have Ho:=eh (Hout.out (.inr h35));have f1:decide (op<1)=false:=by simp;omega
  have f2:decide (35<op)=true:=by simp;omega
  clear h1 h35;go_wp2;go_ret;exact⟨by rw[Ho.out];rfl,hw⟩
 have Heq:=eh (HeqF.out (by omega) (by omega));have f1:decide (op<1)=false:=by simp;omega
 have f2:decide (35<op)=false:=by simp;omega
 clear HeqF Hout;go_upto_block 0 with(fail);go_cut []from 23 to 114 (fun wx=>tgtB m.code.length ⟨op,xa,xb,xn⟩=false∧uG p.classes p.methods.length nl ⟨op,xa,xb,xn⟩=true∧Below w.heap.size w wx∧Blk wx (w.heap.size+1+1) 24 #[.int .i64 op,.int .i64 xa,.int .i64 xb,.int .i64 xn])
 case first=>
  have hc:op=3∨op=4∨op=22∨op=23∨op=24∨op=25∨op=26∨op=27∨op=28∨op=29∨op=30∨op=32∨(op≠3∧op≠4∧op≠22∧op≠23∧op≠24∧op≠25∧op≠26∧op≠27∧op≠28∧op≠29∧op≠30∧op≠32):=by omega
  clear f1 f2 h1 h35;rcases hc with rfl|rfl|rfl|rfl|rfl|rfl|rfl|rfl|rfl|rfl|rfl|rfl|⟨n1,n2,n3,n4,n5,n6,n7,n8,n9,n10,n11,n12⟩
  · --op 3
   cases hi:inB xa nl with
   |true=>
    have hx:=uJ hi;have ht:uG p.classes p.methods.length nl ⟨3,xa,xb,xn⟩=true:=by simp[uG,hi]
    have hg:tgtB m.code.length ⟨3,xa,xb,xn⟩=false:=by simp[tgtB]
    have Hg:=eh hg;have Ht:=eh ht;clear hi hg ht;go_wp2;go_meet;exact⟨Hg.out,Ht.out,hw,b3⟩
   |false=>
    have hx:=in_not hi;have hb:insBad p.classes p.methods.length nl m.code.length ⟨3,xa,xb,xn⟩=3:=by rw[Heq.out];simp[uG,tgtB,hi]
    have Hb:=eh hb;clear hi hb
    by_cases hx0:xa<0
    ·go_wp2;go_ret;exact⟨by rw[Hb.out];rfl,hw⟩
    ·have hx1:((nl:Nat):Int)≤xa:=by omega
     go_wp2;go_ret;exact⟨by rw[Hb.out];rfl,hw⟩
  · --op 4
   cases hi:inB xa nl with
   |true=>
    have hx:=uJ hi;have ht:uG p.classes p.methods.length nl ⟨4,xa,xb,xn⟩=true:=by simp[uG,hi]
    have hg:tgtB m.code.length ⟨4,xa,xb,xn⟩=false:=by simp[tgtB]
    have Hg:=eh hg;have Ht:=eh ht;clear hi hg ht;go_wp2;go_meet;exact⟨Hg.out,Ht.out,hw,b3⟩
   |false=>
    have hx:=in_not hi;have hb:insBad p.classes p.methods.length nl m.code.length ⟨4,xa,xb,xn⟩=3:=by rw[Heq.out];simp[uG,tgtB,hi]
    have Hb:=eh hb;clear hi hb
    by_cases hx0:xa<0
    ·go_wp2;go_ret;exact⟨by rw[Hb.out];rfl,hw⟩
    ·have hx1:((nl:Nat):Int)≤xa:=by omega
     go_wp2;go_ret;exact⟨by rw[Hb.out];rfl,hw⟩
  · --op 22
   have ht:uG p.classes p.methods.length nl ⟨22,xa,xb,xn⟩=true:=by simp[uG]
   have hgg:tgtB m.code.length ⟨22,xa,xb,xn⟩= !inB xa m.code.length:=by simp[tgtB]
   have Ht:=eh ht;have Hgg:=eh hgg;clear ht hgg;cases hi:inB xa m.code.length with
   |true=>
    have hx:=uJ hi;have Hg:=eh (show tgtB m.code.length ⟨22,xa,xb,xn⟩=false by rw[Hgg.out,hi];rfl);clear hi;go_wp2;go_meet;exact⟨Hg.out,Ht.out,hw,b3⟩
   |false=>
    have hx:=in_not hi;have hb:insBad p.classes p.methods.length nl m.code.length ⟨22,xa,xb,xn⟩=4:=by rw[Heq.out,Hgg.out,hi];rfl
    have Hb:=eh hb;clear hi hb
    by_cases hx0:xa<0
    ·go_wp2;go_ret;exact⟨by rw[Hb.out];rfl,hw⟩
    ·have hx1:(m.code.length:Int)≤xa:=by omega
     go_wp2;go_ret;exact⟨by rw[Hb.out];rfl,hw⟩
  · --op 23
   have ht:uG p.classes p.methods.length nl ⟨23,xa,xb,xn⟩=true:=by simp[uG]
   have hgg:tgtB m.code.length ⟨23,xa,xb,xn⟩= !inB xa m.code.length:=by simp[tgtB]
   have Ht:=eh ht;have Hgg:=eh hgg;clear ht hgg;cases hi:inB xa m.code.length with
   |true=>
    have hx:=uJ hi;have Hg:=eh (show tgtB m.code.length ⟨23,xa,xb,xn⟩=false by rw[Hgg.out,hi];rfl);clear hi;go_wp2;go_meet;exact⟨Hg.out,Ht.out,hw,b3⟩
   |false=>
    have hx:=in_not hi;have hb:insBad p.classes p.methods.length nl m.code.length ⟨23,xa,xb,xn⟩=4:=by rw[Heq.out,Hgg.out,hi];rfl
    have Hb:=eh hb;clear hi hb
    by_cases hx0:xa<0
    ·go_wp2;go_ret;exact⟨by rw[Hb.out];rfl,hw⟩
    ·have hx1:(m.code.length:Int)≤xa:=by omega
     go_wp2;go_ret;exact⟨by rw[Hb.out];rfl,hw⟩
  · --op 24
   have Hu:=eh (show usesB 24=false from rfl);cases hi:inB xa p.classes.length with
   |true=>
    have hx:=uJ hi;have ht:uG p.classes p.methods.length nl ⟨24,xa,xb,xn⟩=true:=by simp[uG,hi]
    have hg:tgtB m.code.length ⟨24,xa,xb,xn⟩=false:=by simp[tgtB]
    have Hg:=eh hg;have Ht:=eh ht;have g1:decide (xa<0)=false:=by simp;omega
    have g2:decide ((p.classes.length:Int)≤xa)=false:=by simp;omega
    clear hi hg ht hx;go_wp2;go_quiet ((go_at_call 107;with_reducible exact Calls.quiet_of_same (rusesB_eq Hu.out _)));go_wp2;go_meet;exact⟨Hg.out,Ht.out,uC hw _,b3.drewN _⟩
   |false=>
    have hx:=in_not hi;have hb:insBad p.classes p.methods.length nl m.code.length ⟨24,xa,xb,xn⟩=3:=by rw[Heq.out];simp[uG,tgtB,hi]
    have Hb:=eh hb;clear hi hb
    by_cases hx0:xa<0
    ·go_wp2;go_quiet (fail);go_wp2;go_ret;exact⟨by rw[Hb.out];rfl,uC hw _⟩
    ·have g1:decide (xa<0)=false:=by simp;omega
     have g2:decide ((p.classes.length:Int)≤xa)=true:=by simp;omega
     clear hx hx0;go_wp2;go_quiet (fail);go_wp2;go_ret;exact⟨by rw[Hb.out];rfl,uC hw _⟩
  · --op 25
   have Hu:=eh (show usesB 25=true from rfl);cases hi:inB xa p.classes.length with
   |true=>
    have hx:=uJ hi;obtain⟨k,rfl⟩:∃k:Nat,xa=k:=⟨xa.toNat,by omega⟩;have hkl:k<p.classes.length:=by omega
    obtain⟨b,off,rfl,hbl,c1⟩:=str_at hr3 hkl;have hfs:=hp.fs k hkl;have hgd:tgtB m.code.length ⟨25,(k:Int),xb,xn⟩=false:=by simp[tgtB]
    have htt:uG p.classes p.methods.length nl ⟨25,(k:Int),xb,xn⟩=inB xb (p.classes.getD k ⟨#[]⟩).size:=by simp[uG,hi]
    have Hi:=eh hi;have Hgd:=eh hgd;have Htt:=eh htt;clear hi hgd htt;generalize p.classes.getD k ⟨#[]⟩=s at*;have k0:(0:Int)≤k:=by omega
    have k1:(k:Int)<p.classes.length:=by omega
    have g1:decide ((k:Int)<0)=false:=decide_eq_false (by omega);have g2:decide (p.classes.length≤k)=false:=by simp;omega
    cases hj:inB xb s.size with
    |true=>
     have hy:=uJ hj;have Ht:=eh (show uG p.classes p.methods.length nl ⟨25,(k:Int),xb,xn⟩=true by rw[Htt.out,hj]);have q1:decide (xb<0)=false:=by simp;omega
     have q2:decide ((s.size:Int)≤xb)=false:=by simp;omega
     clear hj hy;go_wp2;go_quiet ((go_at_call 107;with_reducible exact Calls.quiet_of_same (rusesB_eq Hu.out _)));go_wp2;go_meet;exact⟨Hgd.out,Ht.out,uC hw _,b3.drewN _⟩
    |false=>
     have hy:=in_not hj;have hb:insBad p.classes p.methods.length nl m.code.length ⟨25,(k:Int),xb,xn⟩=3:=by rw[Heq.out,Hgd.out,Htt.out,hj];rfl
     have Hb:=eh hb;clear hj hb
     by_cases hy0:xb<0
     ·have q1:decide (xb<0)=true:=by simpa using hy0
      clear hy hy0;go_wp2;go_quiet ((go_at_call 107;with_reducible exact Calls.quiet_of_same (rusesB_eq Hu.out _)));go_wp2;go_ret;exact⟨by rw[Hb.out];rfl,uC hw _⟩
     ·have q1:decide (xb<0)=false:=by simp;omega
      have q2:decide ((s.size:Int)≤xb)=true:=by simp;omega
      clear hy hy0;go_wp2;go_quiet ((go_at_call 107;with_reducible exact Calls.quiet_of_same (rusesB_eq Hu.out _)));go_wp2;go_ret;exact⟨by rw[Hb.out];rfl,uC hw _⟩
   |false=>
    have hx:=in_not hi;have hb:insBad p.classes p.methods.length nl m.code.length ⟨25,xa,xb,xn⟩=3:=by rw[Heq.out];simp[uG,tgtB,hi]
    have Hb:=eh hb;clear hi hb
    by_cases hx0:xa<0
    ·go_wp2;go_quiet (fail);go_wp2;go_ret;exact⟨by rw[Hb.out];rfl,uC hw _⟩
    ·have g1:decide (xa<0)=false:=by simp;omega
     have g2:decide ((p.classes.length:Int)≤xa)=true:=by simp;omega
     clear hx hx0;go_wp2;go_quiet (fail);go_wp2;go_ret;exact⟨by rw[Hb.out];rfl,uC hw _⟩
  · --op 26
   have Hu:=eh (show usesB 26=true from rfl);cases hi:inB xa p.classes.length with
   |true=>
    have hx:=uJ hi;obtain⟨k,rfl⟩:∃k:Nat,xa=k:=⟨xa.toNat,by omega⟩;have hkl:k<p.classes.length:=by omega
    obtain⟨b,off,rfl,hbl,c1⟩:=str_at hr3 hkl;have hfs:=hp.fs k hkl;have hgd:tgtB m.code.length ⟨26,(k:Int),xb,xn⟩=false:=by simp[tgtB]
    have htt:uG p.classes p.methods.length nl ⟨26,(k:Int),xb,xn⟩=inB xb (p.classes.getD k ⟨#[]⟩).size:=by simp[uG,hi]
    have Hi:=eh hi;have Hgd:=eh hgd;have Htt:=eh htt;clear hi hgd htt;generalize p.classes.getD k ⟨#[]⟩=s at*;have k0:(0:Int)≤k:=by omega
    have k1:(k:Int)<p.classes.length:=by omega
    have g1:decide ((k:Int)<0)=false:=decide_eq_false (by omega);have g2:decide (p.classes.length≤k)=false:=by simp;omega
    cases hj:inB xb s.size with
    |true=>
     have hy:=uJ hj;have Ht:=eh (show uG p.classes p.methods.length nl ⟨26,(k:Int),xb,xn⟩=true by rw[Htt.out,hj]);have q1:decide (xb<0)=false:=by simp;omega
     have q2:decide ((s.size:Int)≤xb)=false:=by simp;omega
     clear hj hy;go_wp2;go_quiet ((go_at_call 107;with_reducible exact Calls.quiet_of_same (rusesB_eq Hu.out _)));go_wp2;go_meet;exact⟨Hgd.out,Ht.out,uC hw _,b3.drewN _⟩
    |false=>
     have hy:=in_not hj;have hb:insBad p.classes p.methods.length nl m.code.length ⟨26,(k:Int),xb,xn⟩=3:=by rw[Heq.out,Hgd.out,Htt.out,hj];rfl
     have Hb:=eh hb;clear hj hb
     by_cases hy0:xb<0
     ·have q1:decide (xb<0)=true:=by simpa using hy0
      clear hy hy0;go_wp2;go_quiet ((go_at_call 107;with_reducible exact Calls.quiet_of_same (rusesB_eq Hu.out _)));go_wp2;go_ret;exact⟨by rw[Hb.out];rfl,uC hw _⟩
     ·have q1:decide (xb<0)=false:=by simp;omega
      have q2:decide ((s.size:Int)≤xb)=true:=by simp;omega
      clear hy hy0;go_wp2;go_quiet ((go_at_call 107;with_reducible exact Calls.quiet_of_same (rusesB_eq Hu.out _)));go_wp2;go_ret;exact⟨by rw[Hb.out];rfl,uC hw _⟩
   |false=>
    have hx:=in_not hi;have hb:insBad p.classes p.methods.length nl m.code.length ⟨26,xa,xb,xn⟩=3:=by rw[Heq.out];simp[uG,tgtB,hi]
    have Hb:=eh hb;clear hi hb
    by_cases hx0:xa<0
    ·go_wp2;go_quiet (fail);go_wp2;go_ret;exact⟨by rw[Hb.out];rfl,uC hw _⟩
    ·have g1:decide (xa<0)=false:=by simp;omega
     have g2:decide ((p.classes.length:Int)≤xa)=true:=by simp;omega
     clear hx hx0;go_wp2;go_quiet (fail);go_wp2;go_ret;exact⟨by rw[Hb.out];rfl,uC hw _⟩
  · --op 27
   have Hu:=eh (show usesB 27=false from rfl);cases hi:inB xa p.classes.length with
   |true=>
    have hx:=uJ hi;have ht:uG p.classes p.methods.length nl ⟨27,xa,xb,xn⟩=true:=by simp[uG,hi]
    have hg:tgtB m.code.length ⟨27,xa,xb,xn⟩=false:=by simp[tgtB]
    have Hg:=eh hg;have Ht:=eh ht;have g1:decide (xa<0)=false:=by simp;omega
    have g2:decide ((p.classes.length:Int)≤xa)=false:=by simp;omega
    clear hi hg ht hx;go_wp2;go_quiet ((go_at_call 107;with_reducible exact Calls.quiet_of_same (rusesB_eq Hu.out _)));go_wp2;go_meet;exact⟨Hg.out,Ht.out,uC hw _,b3.drewN _⟩
   |false=>
    have hx:=in_not hi;have hb:insBad p.classes p.methods.length nl m.code.length ⟨27,xa,xb,xn⟩=3:=by rw[Heq.out];simp[uG,tgtB,hi]
    have Hb:=eh hb;clear hi hb
    by_cases hx0:xa<0
    ·go_wp2;go_quiet (fail);go_wp2;go_ret;exact⟨by rw[Hb.out];rfl,uC hw _⟩
    ·have g1:decide (xa<0)=false:=by simp;omega
     have g2:decide ((p.classes.length:Int)≤xa)=true:=by simp;omega
     clear hx hx0;go_wp2;go_quiet (fail);go_wp2;go_ret;exact⟨by rw[Hb.out];rfl,uC hw _⟩
  · --op 28
   have hg:tgtB m.code.length ⟨28,xa,xb,xn⟩=false:=by simp[tgtB]
   have htt:uG p.classes p.methods.length nl ⟨28,xa,xb,xn⟩=inB xa 2:=by simp[uG]
   have Hg:=eh hg;have Htt:=eh htt;clear hg htt
   by_cases h0:xa=0
   ·have g0:(xa != 0)=false:=by simp[h0]
    have Ht:=eh (show inB xa 2=true by rw[h0];rfl);clear h0;go_wp2;go_meet;exact⟨Hg.out,Htt.out.trans Ht.out,hw,b3⟩
   ·have g0:(xa != 0)=true:=by simpa using h0
    by_cases h1:xa=1
    ·have g1:(xa != 1)=false:=by simp[h1]
     have Ht:=eh (show inB xa 2=true by rw[h1];rfl);clear h0 h1;go_wp2;go_meet;exact⟨Hg.out,Htt.out.trans Ht.out,hw,b3⟩
    ·have g1:(xa != 1)=true:=by simpa using h1
     have hb:insBad p.classes p.methods.length nl m.code.length ⟨28,xa,xb,xn⟩=3:=by
      rw[Heq.out,Hg.out,Htt.out];have :inB xa 2=false:=by
       cases h:inB xa 2 with
       |false=>rfl
       |true=>have:=uJ h;omega
      rw[this];rfl
     have Hb:=eh hb;clear h0 h1 hb;go_wp2;go_ret;exact⟨by rw[Hb.out];rfl,hw⟩
  · --op 29
   have hg:tgtB m.code.length ⟨29,xa,xb,xn⟩=false:=by simp[tgtB]
   have htt:uG p.classes p.methods.length nl ⟨29,xa,xb,xn⟩=inB xa 2:=by simp[uG]
   have Hg:=eh hg;have Htt:=eh htt;clear hg htt
   by_cases h0:xa=0
   ·have g0:(xa != 0)=false:=by simp[h0]
    have Ht:=eh (show inB xa 2=true by rw[h0];rfl);clear h0;go_wp2;go_meet;exact⟨Hg.out,Htt.out.trans Ht.out,hw,b3⟩
   ·have g0:(xa != 0)=true:=by simpa using h0
    by_cases h1:xa=1
    ·have g1:(xa != 1)=false:=by simp[h1]
     have Ht:=eh (show inB xa 2=true by rw[h1];rfl);clear h0 h1;go_wp2;go_meet;exact⟨Hg.out,Htt.out.trans Ht.out,hw,b3⟩
    ·have g1:(xa != 1)=true:=by simpa using h1
     have hb:insBad p.classes p.methods.length nl m.code.length ⟨29,xa,xb,xn⟩=3:=by
      rw[Heq.out,Hg.out,Htt.out];have :inB xa 2=false:=by
       cases h:inB xa 2 with
       |false=>rfl
       |true=>have:=uJ h;omega
      rw[this];rfl
     have Hb:=eh hb;clear h0 h1 hb;go_wp2;go_ret;exact⟨by rw[Hb.out];rfl,hw⟩
  · --op 30
   have hg:tgtB m.code.length ⟨30,xa,xb,xn⟩=false:=by simp[tgtB]
   have htt:uG p.classes p.methods.length nl ⟨30,xa,xb,xn⟩=inB xa 2:=by simp[uG]
   have Hg:=eh hg;have Htt:=eh htt;clear hg htt
   by_cases h0:xa=0
   ·have g0:(xa != 0)=false:=by simp[h0]
    have Ht:=eh (show inB xa 2=true by rw[h0];rfl);clear h0;go_wp2;go_meet;exact⟨Hg.out,Htt.out.trans Ht.out,hw,b3⟩
   ·have g0:(xa != 0)=true:=by simpa using h0
    by_cases h1:xa=1
    ·have g1:(xa != 1)=false:=by simp[h1]
     have Ht:=eh (show inB xa 2=true by rw[h1];rfl);clear h0 h1;go_wp2;go_meet;exact⟨Hg.out,Htt.out.trans Ht.out,hw,b3⟩
    ·have g1:(xa != 1)=true:=by simpa using h1
     have hb:insBad p.classes p.methods.length nl m.code.length ⟨30,xa,xb,xn⟩=3:=by
      rw[Heq.out,Hg.out,Htt.out];have :inB xa 2=false:=by
       cases h:inB xa 2 with
       |false=>rfl
       |true=>have:=uJ h;omega
      rw[this];rfl
     have Hb:=eh hb;clear h0 h1 hb;go_wp2;go_ret;exact⟨by rw[Hb.out];rfl,hw⟩
  · --op 32
   have hg:tgtB m.code.length ⟨32,xa,xb,xn⟩=false:=by simp[tgtB]
   have htt:uG p.classes p.methods.length nl ⟨32,xa,xb,xn⟩=(decide (0<xa)&&inB xa p.methods.length):=by simp[uG]
   have Hg:=eh hg;have Htt:=eh htt;clear hg htt
   by_cases h0:1≤xa
   ·by_cases h1:xa<p.methods.length
    ·have Ht:=eh (show uG p.classes p.methods.length nl ⟨32,xa,xb,xn⟩=true by rw[Htt.out];simp[inB];omega);go_wp2;go_meet;exact⟨Hg.out,Ht.out,hw,b3⟩
    ·have hb:insBad p.classes p.methods.length nl m.code.length ⟨32,xa,xb,xn⟩=3:=by
      rw[Heq.out,Hg.out,Htt.out];have :inB xa p.methods.length=false:=by simp[inB];omega
      rw[this];simp
     have Hb:=eh hb;clear hb;go_wp2;go_ret;exact⟨by rw[Hb.out];rfl,hw⟩
   ·have hb:insBad p.classes p.methods.length nl m.code.length ⟨32,xa,xb,xn⟩=3:=by
     rw[Heq.out,Hg.out,Htt.out,decide_eq_false (by omega)];rfl
    have Hb:=eh hb;clear hb;go_wp2;go_ret;exact⟨by rw[Hb.out];rfl,hw⟩
  ·have ht:uG p.classes p.methods.length nl ⟨op,xa,xb,xn⟩=true:=by simp[uG, *]
   have hg:tgtB m.code.length ⟨op,xa,xb,xn⟩=false:=by simp[tgtB, *]
   have Hg:=eh hg;have Ht:=eh ht;have g1:(op==3)=false:=by simp;omega
   have g2:(op==4)=false:=by simp;omega
   have g3:(op==24)=false:=by simp;omega
   have g4:(op==25)=false:=by simp;omega
   have g5:(op==26)=false:=by simp;omega
   have g6:(op==27)=false:=by simp;omega
   have g7:(op==28)=false:=by simp;omega
   have g8:(op==29)=false:=by simp;omega
   have g9:(op==30)=false:=by simp;omega
   have g10:(op==32)=false:=by simp;omega
   have g11:(op==22)=false:=by simp;omega
   have g12:(op==23)=false:=by simp;omega
   clear hg ht n1 n2 n3 n4 n5 n6 n7 n8 n9 n10 n11 n12;go_wp2;go_meet;exact⟨Hg.out,Ht.out,hw,b3⟩
 case rest=>
  obtain⟨hG,hT,hbx,hbi⟩:=hcut;have hE:=Heq.out;rw[hG,hT]at hE;have hE2:insBad p.classes p.methods.length nl m.code.length ⟨op,xa,xb,xn⟩=if wantB ⟨op,xa,xb,xn⟩=true then 3 else 0:=by simpa using hE
  have HE:=eh hE2;have hwb:wantB ⟨op,xa,xb,xn⟩=(!usesA op&&decide (xa≠0)||(!usesB op&&decide (xb≠0)|| !decide (op=1)&&decide (xn≠0))):=rfl;have Hwb:=eh hwb;have HA:=eh (fun W=>rusesA_any op W);have HB:=eh (fun W=>rusesB_any op W);clear hE hE2 hG hT hwb Heq p0 p1 m3 i0 i1 i2 i3 b1 b2 b3 hr3 hr;have i0:=hbi.at0;have i1:=hbi.at1;have i2:=hbi.at2;have i3:=hbi.at3;have hzi:=hbi.lt;generalize wantB ⟨op,xa,xb,xn⟩=wb at*;generalize usesA op=ua at*;generalize usesB op=ub at*;generalize iv ⟨op,xa,xb,xn⟩=ivv at*;go_upto_region 27 with(fail);go_cut [144]from 115 to 144 (fun v w2=>v=.bool wb∧Below w.heap.size w w2)
  case first=>
   by_cases h1:op=1
   ·have e1:(op != 1)=false:=by simp[h1]
    have e2:=eh (show decide (op=1)=true by simp[h1]);rw[e2.out]at Hwb;clear h1;cases ua<;>cases ub
    all_goals
     go_wp2_with (first|(go_at_call 108;refine(HA.out _).mono ?_;rintro e w' ⟨rfl,rfl⟩)|(go_at_call 107;refine(HB.out _).mono ?_;rintro e w' ⟨rfl,rfl⟩))
     all_goals
      go_meet;refine⟨congrArg Value.bool ?_,hbx⟩;rw[Hwb.out,Bool.eq_iff_iff];simp[*]
   ·have e1:(op != 1)=true:=by simp[h1]
    have e2:=eh (show decide (op=1)=false by simp[h1]);rw[e2.out]at Hwb;clear h1;cases ua<;>cases ub
    all_goals
     go_wp2_with (first|(go_at_call 108;refine(HA.out _).mono ?_;rintro e w' ⟨rfl,rfl⟩)|(go_at_call 107;refine(HB.out _).mono ?_;rintro e w' ⟨rfl,rfl⟩))
     all_goals
      go_meet;refine⟨congrArg Value.bool ?_,hbx⟩;rw[Hwb.out,Bool.eq_iff_iff];simp[*]
  case rest=>
   obtain⟨rfl,hbx⟩:=hcut;cases hf:wb with
   |true=>
    rw[hf]at HE;go_wp2;go_ret;exact⟨by rw[HE.out];rfl,hbx⟩
   |false=>
    rw[hf]at HE;go_wp2;go_ret;exact⟨by rw[HE.out];rfl,hbx⟩
theorem rinstr_any(Ac Am:Option Addr)(cc cm:Nat)(p:Prg)(w:World)(hr:Rd w w.heap.size 1 Ac p.classes.length (p.classes.map Value.string))(hp:POk p)
 (A:Option Addr)(c:Nat)(m:Mth)(hk:m.pa.size+m.lo.size≤1000)(hmc:m.code.length≤9223372036854775807)(x:Ins):
 Calls Tryz.prog 72 #[pv Ac cc Am cm p,mv A c m,iv x] w fun e w'=>e=.returned (.int .i64 (codeOf (insBad p.classes p.methods.length (m.pa.size+m.lo.size) m.code.length x)))∧Below w.heap.size w w':=
 rinstr_nl Ac Am cc cm p w hr hp A c m _ rfl hk hmc x
theorem relem_any(i:Int)(w:World)(hi:inB i 2=true):Calls Tryz.prog 146 #[.int .i64 i] w fun e w'=>e=.returned (.string (atB sIRs i))∧w=w':=by
 have h:=uJ hi;have :i=0∨i=1:=by omega
 rcases this with rfl|rfl
 ·have H:=eh (show atB sIRs 0=sI from by decide+kernel);go_enter Tryz.func146,Tryz.ntmps146;go_wp2;go_ret;exact⟨ret_str (by rw[H.out];rfl),rfl⟩
 ·have H:=eh (show atB sIRs 1=sR from by decide+kernel);go_enter Tryz.func146,Tryz.ntmps146;go_wp2;go_ret;exact⟨ret_str (by rw[H.out];rfl),rfl⟩
theorem methodF_at{p:Prg}{k:Nat}(hk:k<p.methods.length):methodF p k=p.methods.getD k default:=by
 unfold methodF;rw[if_pos (by simp[inB];omega)];simp
theorem atB_at{s:ByteArray}{k:Nat}(hk:k<s.size):atB s k=s.extract k (k+1):=by
 unfold atB;rw[if_pos (by simp[inB];omega)];simp
theorem fieldF_at{p:Prg}{k j:Nat}(hk:k<p.classes.length)(hj:j<(p.classes.getD k ⟨#[]⟩).size):fieldF p k j=(p.classes.getD k ⟨#[]⟩).extract j (j+1):=by
 unfold fieldF;rw[if_pos (by simp[inB];omega)];simp only[Int.toNat_natCast];exact atB_at hj
theorem reffect_any(Ac Am:Option Addr)(cc cm:Nat)(p:Prg)(x:Ins)(m:Nat)(w:World)(hr:RdP w w.heap.size Ac Am p)(hp:POk p)(hm:m<p.methods.length)(mine:Mth)(hmine:p.methods.getD m default=mine)(hk:mine.pa.size+mine.lo.size≤1000)
 (hv:insBad p.classes p.methods.length (mine.pa.size+mine.lo.size) mine.code.length x=0):
 Calls Tryz.prog 109 #[pv Ac cc Am cm p,.int .i64 m,iv x] w (EffPost w (effF p mine x)):=by
 obtain⟨op,xa,xb,xn⟩:=x;have hth:∀_:1≤op∧op≤35,uG p.classes p.methods.length (mine.pa.size+mine.lo.size) ⟨op,xa,xb,xn⟩=true:=fun h=>by
  have hv2:=hv;rw[insBad_eq _ _ _ _ _ h.1 h.2]at hv2;cases hth:uG p.classes p.methods.length (mine.pa.size+mine.lo.size) ⟨op,xa,xb,xn⟩with
  |true=>rfl
  |false=>
   rw[hth]at hv2;simp at hv2;split at hv2<;>omega
 have Hth:=eh hth;clear hth hv;have hPP:∀f w',effF p mine ⟨op,xa,xb,xn⟩=f→Below w.heap.size w w'→EffPost w (effF p mine ⟨op,xa,xb,xn⟩) (.returned (.tuple #[.string f.1,.string f.2.1,.bool f.2.2])) w':=fun f w' e h=>by rw[e];exact⟨rfl,h⟩
 have HP:=eh hPP;clear hPP;generalize EffPost w (effF p mine ⟨op,xa,xb,xn⟩)=Post at*;have hms:=hp.ms;have hw2:Below w.heap.size w ((w.alloc (.cells #[.slice Ac p.classes.length cc,.slice Am p.methods.length cm] 31)).alloc (.cells #[.int .i64 op,.int .i64 xa,.int .i64 xb,.int .i64 xn] 24)):=((Below.refl _ _).alloc (Nat.le_refl _) _).alloc (by simp) _;have hbp:=(Blk.new w 31 #[.slice Ac p.classes.length cc,.slice Am p.methods.length cm]).alloc (.cells #[.int .i64 op,.int .i64 xa,.int .i64 xb,.int .i64 xn] 24);have hbx:=Blk.newAt (w:=w.alloc (.cells #[.slice Ac p.classes.length cc,.slice Am p.methods.length cm] 31)) (g:=w.heap.size+1) (by simp) 24 #[.int .i64 op,.int .i64 xa,.int .i64 xb,.int .i64 xn];obtain⟨b,off,Ai,ci,rfl,hbb,y0,y1,y2,y3,_⟩:=mth_at (hr.ms.below hw2 (Nat.le_refl _)) hm;rw[hmine]at y0 y1 y2 y3;have k0:(0:Int)≤m:=by omega
 have k1:(m:Int)<p.methods.length:=by omega
 go_enter Tryz.func109,Tryz.ntmps109;go_wp2_with fail;refine(rkinds_any _ _ _ _ hk).mono ?_;rintro e w3 ⟨rfl,hb3⟩;have hw1:=hw2.trans (hb3.mono hw2.size);have dP:=hbp.below hb3 hbp.lt;have dX:=hbx.below hb3 hbx.lt;clear hbp hbx hb3 y0 y1 y2 y3 hw2;go_upto_region 2 with(fail);have p0:=dP.at0;have p1:=dP.at1;have i0:=dX.at0;have i1:=dX.at1;have i2:=dX.at2;have i3:=dX.at3;have lP:=dP.lt;have lX:=dX.lt;have hz:=hw1.size;have hrc:=eh (hr.cl.below hw1 (Nat.le_refl _));have hrm:=eh (hr.ms.below hw1 (Nat.le_refl _));have hcl:=hp.cl;obtain⟨ks,hks⟩:∃ks,mine.pa++mine.lo=ks:=⟨_,rfl⟩;have hkz:ks.size=mine.pa.size+mine.lo.size:=by rw[←hks,ByteArray.size_append]
 rw[hks];have Hks:=eh hks;clear hr hks
 by_cases hA:8≤op∧op≤20∧op≠18
 ·have Hf:=eh (show effF p mine ⟨op,xa,xb,xn⟩=(sII,sI,true) by unfold effF;rw[if_pos hA]);obtain⟨a1,a2,a3⟩:=hA;have g1:decide (8≤op)=true:=by simpa using a1
  have g2:decide (op≤20)=true:=by simpa using a2
  have q1:(op==1)=false:=by simp;omega
  have q2:(op==2)=false:=by simp;omega
  have q3:(op==3)=false:=by simp;omega
  have q4:(op==4)=false:=by simp;omega
  have q18:(op==18)=false:=by simp;omega
  have q21:(op==21)=false:=by simp;omega
  have q22:(op==22)=false:=by simp;omega
  have q23:(op==23)=false:=by simp;omega
  have q24:(op==24)=false:=by simp;omega
  have q25:(op==25)=false:=by simp;omega
  have q26:(op==26)=false:=by simp;omega
  have q27:(op==27)=false:=by simp;omega
  have q28:(op==28)=false:=by simp;omega
  have q29:(op==29)=false:=by simp;omega
  have q30:(op==30)=false:=by simp;omega
  have q31:(op==31)=false:=by simp;omega
  have q32:(op==32)=false:=by simp;omega
  have q33:(op==33)=false:=by simp;omega
  have q34:(op==34)=false:=by simp;omega
  have q35:(op==35)=false:=by simp;omega
  clear a1 a2 a3;go_wp2;go_ret3;exact HP.out _ _ Hf.out hw1
 have hc:op=1∨op=2∨op=3∨op=4∨op=18∨op=21∨op=22∨op=23∨op=24∨op=25∨op=26∨op=27∨op=28∨op=29∨op=30∨op=31∨op=32∨op=33∨op=34∨op=35∨(op≠1∧op≠2∧op≠3∧op≠4∧op≠18∧op≠21∧op≠22∧op≠23∧op≠24∧op≠25∧op≠26∧op≠27∧op≠28∧op≠29∧op≠30∧op≠31∧op≠32∧op≠33∧op≠34∧op≠35):=by omega
 rcases hc with rfl|rfl|rfl|rfl|rfl|rfl|rfl|rfl|rfl|rfl|rfl|rfl|rfl|rfl|rfl|rfl|rfl|rfl|rfl|rfl|⟨n1,n2,n3,n4,n18,n21,n22,n23,n24,n25,n26,n27,n28,n29,n30,n31,n32,n33,n34,n35⟩
 ·have Hf:=eh (show effF p mine ⟨1,xa,xb,xn⟩=(sE,sI,true)from rfl);have hT:=Hth.out (by omega);clear hA Hth;clear hT;go_wp2;go_ret3;exact HP.out _ _ Hf.out hw1
 ·have Hf:=eh (show effF p mine ⟨2,xa,xb,xn⟩=(sE,sR,true)from rfl);have hT:=Hth.out (by omega);clear hA Hth;clear hT;go_wp2;go_ret3;exact HP.out _ _ Hf.out hw1
 ·have Hf:=eh (show effF p mine ⟨3,xa,xb,xn⟩=(sE,atB (mine.pa++mine.lo) xa,true)from rfl);have hT:=Hth.out (by omega);clear hA Hth;have hx:=uJ (show inB xa (mine.pa.size+mine.lo.size)=true by simpa[uG]using hT);obtain⟨k,rfl⟩:∃k:Nat,xa=k:=⟨xa.toNat,by omega⟩;have hkk:k<ks.size:=by omega
  have Hat:=eh (atB_at hkk);have j0:(0:Int)≤k:=by omega
  have j1:(k:Int)+1≤ks.size:=by omega
  have jw:IntKind.i64.wrap ((k:Int)+1)=(k:Int)+1:=IntWalk.i64_in _ (by omega);clear hT hx;go_wp2;go_quiet (fail);go_wp2;go_ret3;exact HP.out _ _ (by rw[Hf.out,Hks.out,Hat.out]) (uC hw1 _)
 ·have Hf:=eh (show effF p mine ⟨4,xa,xb,xn⟩=(atB (mine.pa++mine.lo) xa,sE,true)from rfl);have hT:=Hth.out (by omega);clear hA Hth;have hx:=uJ (show inB xa (mine.pa.size+mine.lo.size)=true by simpa[uG]using hT);obtain⟨k,rfl⟩:∃k:Nat,xa=k:=⟨xa.toNat,by omega⟩;have hkk:k<ks.size:=by omega
  have Hat:=eh (atB_at hkk);have j0:(0:Int)≤k:=by omega
  have j1:(k:Int)+1≤ks.size:=by omega
  have jw:IntKind.i64.wrap ((k:Int)+1)=(k:Int)+1:=IntWalk.i64_in _ (by omega);clear hT hx;go_wp2
  skip
  go_ret3;exact HP.out _ _ (by rw[Hf.out,Hks.out,Hat.out]) hw1
 ·have Hf:=eh (show effF p mine ⟨18,xa,xb,xn⟩=(sI,sI,true)from rfl);have hT:=Hth.out (by omega);clear hA Hth;clear hT;go_wp2;go_ret3;exact HP.out _ _ Hf.out hw1
 ·have Hf:=eh (show effF p mine ⟨21,xa,xb,xn⟩=(sRR,sI,true)from rfl);have hT:=Hth.out (by omega);clear hA Hth;clear hT;go_wp2;go_ret3;exact HP.out _ _ Hf.out hw1
 ·have Hf:=eh (show effF p mine ⟨22,xa,xb,xn⟩=(sE,sE,true)from rfl);have hT:=Hth.out (by omega);clear hA Hth;clear hT;go_wp2;go_ret3;exact HP.out _ _ Hf.out hw1
 ·have Hf:=eh (show effF p mine ⟨23,xa,xb,xn⟩=(sI,sE,true)from rfl);have hT:=Hth.out (by omega);clear hA Hth;clear hT;go_wp2;go_ret3;exact HP.out _ _ Hf.out hw1
 ·have Hf:=eh (show effF p mine ⟨24,xa,xb,xn⟩=(sE,sR,true)from rfl);have hT:=Hth.out (by omega);clear hA Hth;clear hT;go_wp2;go_ret3;exact HP.out _ _ Hf.out hw1
 ·have Hf:=eh (show effF p mine ⟨25,xa,xb,xn⟩=(sR,fieldF p xa xb,true)from rfl);have hT:=Hth.out (by omega);clear hA Hth;have hx0:=show(inB xa p.classes.length&&inB xb (p.classes.getD xa.toNat ⟨#[]⟩).size)=true by simpa[uG]using hT
  rw[Bool.and_eq_true]at hx0;have hx:=uJ hx0.1;have hy:=uJ hx0.2;obtain⟨k,rfl⟩:∃k:Nat,xa=k:=⟨xa.toNat,by omega⟩;obtain⟨j,rfl⟩:∃j:Nat,xb=j:=⟨xb.toNat,by omega⟩;simp only[Int.toNat_natCast]at hy;have hkk:k<p.classes.length:=by omega
  have Hat:=eh (fieldF_at (p:=p) (k:=k) (j:=j) hkk (by omega));obtain⟨bc,offc,rfl,hbl,c1⟩:=str_at hrc.out hkk;have hfs:=hp.fs k hkk;generalize p.classes.getD k ⟨#[]⟩=s at*;have j0:(0:Int)≤k:=by omega
  have j1:(k:Int)<p.classes.length:=by omega
  have j2:(0:Int)≤j:=by omega
  have j3:(j:Int)+1≤s.size:=by omega
  have jw:IntKind.i64.wrap ((j:Int)+1)=(j:Int)+1:=IntWalk.i64_in _ (by omega);have hex:(s.extract j (j+1)).size≤1:=by rw[ByteArray.size_extract];omega
  have hk1:¬9223372036854775807<(s.extract j (j+1)).size+1:=by omega
  clear hT hx0 hx hy hrc;go_wp2;go_quiet (fail);go_wp2;go_ret3;exact HP.out _ _ (by rw[Hf.out,Hat.out]) (uC hw1 _)
 ·have Hf:=eh (show effF p mine ⟨26,xa,xb,xn⟩=(sR++fieldF p xa xb,sE,true)from rfl);have hT:=Hth.out (by omega);clear hA Hth;have hx0:=show(inB xa p.classes.length&&inB xb (p.classes.getD xa.toNat ⟨#[]⟩).size)=true by simpa[uG]using hT
  rw[Bool.and_eq_true]at hx0;have hx:=uJ hx0.1;have hy:=uJ hx0.2;obtain⟨k,rfl⟩:∃k:Nat,xa=k:=⟨xa.toNat,by omega⟩;obtain⟨j,rfl⟩:∃j:Nat,xb=j:=⟨xb.toNat,by omega⟩;simp only[Int.toNat_natCast]at hy;have hkk:k<p.classes.length:=by omega
  have Hat:=eh (fieldF_at (p:=p) (k:=k) (j:=j) hkk (by omega));obtain⟨bc,offc,rfl,hbl,c1⟩:=str_at hrc.out hkk;have hfs:=hp.fs k hkk;generalize p.classes.getD k ⟨#[]⟩=s at*;have j0:(0:Int)≤k:=by omega
  have j1:(k:Int)<p.classes.length:=by omega
  have j2:(0:Int)≤j:=by omega
  have j3:(j:Int)+1≤s.size:=by omega
  have jw:IntKind.i64.wrap ((j:Int)+1)=(j:Int)+1:=IntWalk.i64_in _ (by omega);have hex:(s.extract j (j+1)).size≤1:=by rw[ByteArray.size_extract];omega
  have hk1:¬9223372036854775807<(s.extract j (j+1)).size+1:=by omega
  clear hT hx0 hx hy hrc;go_wp2;go_quiet (fail);go_wp2;go_ret3;exact HP.out _ _ (by rw[Hf.out,Hat.out]) (uC hw1 _)
 ·have Hf:=eh (show effF p mine ⟨27,xa,xb,xn⟩=(sR,sI,true)from rfl);have hT:=Hth.out (by omega);clear hA Hth;clear hT;go_wp2;go_ret3;exact HP.out _ _ Hf.out hw1
 ·have Hf:=eh (show effF p mine ⟨28,xa,xb,xn⟩=(sI,sR,true)from rfl);have hT:=Hth.out (by omega);clear hA Hth;clear hT;go_wp2;go_ret3;exact HP.out _ _ Hf.out hw1
 ·have Hf:=eh (show effF p mine ⟨29,xa,xb,xn⟩=(sRI,atB sIRs xa,true)from rfl);have hT:=Hth.out (by omega);clear hA Hth;have Hx:=eh (show inB xa 2=true by simpa[uG]using hT);have has:=atB_le sIRs xa;have hk1:¬9223372036854775807<(atB sIRs xa).size+2:=by omega
  clear hT;go_wp2_with (go_at_call 146;refine(relem_any _ _ Hx.out).mono ?_;rintro e w4 ⟨rfl,rfl⟩);go_ret3;exact HP.out _ _ Hf.out hw1
 ·have Hf:=eh (show effF p mine ⟨30,xa,xb,xn⟩=(sRI++atB sIRs xa,sE,true)from rfl);have hT:=Hth.out (by omega);clear hA Hth;have Hx:=eh (show inB xa 2=true by simpa[uG]using hT);have has:=atB_le sIRs xa;have hk1:¬9223372036854775807<(atB sIRs xa).size+2:=by omega
  clear hT;go_wp2_with (go_at_call 146;refine(relem_any _ _ Hx.out).mono ?_;rintro e w4 ⟨rfl,rfl⟩);go_ret3;exact HP.out _ _ Hf.out hw1
 ·have Hf:=eh (show effF p mine ⟨31,xa,xb,xn⟩=(sR,sI,true)from rfl);have hT:=Hth.out (by omega);clear hA Hth;clear hT;go_wp2;go_ret3;exact HP.out _ _ Hf.out hw1
 ·have Hf:=eh (show effF p mine ⟨32,xa,xb,xn⟩=((methodF p xa).pa,(methodF p xa).re,true)from rfl);have hT:=Hth.out (by omega);clear hA Hth;have hx0:=show(decide (0<xa)&&inB xa p.methods.length)=true by simpa[uG]using hT
  rw[Bool.and_eq_true]at hx0;have hx:=uJ hx0.2;obtain⟨k,rfl⟩:∃k:Nat,xa=k:=⟨xa.toNat,by omega⟩;have hkk:k<p.methods.length:=by omega
  have Hat:=eh (methodF_at hkk);obtain⟨bc,offc,Aj,cj,eA,hbl,y0,y1,y2,y3,_⟩:=mth_at hrm.out hkk;injection eA with eA
  injection eA with eA1 eA2
  subst eA1 eA2;generalize p.methods.getD k default=m2 at*;have j0:(0:Int)≤k:=by omega
  have j1:(k:Int)<p.methods.length:=by omega
  clear hT hx0 hx hrc hrm;go_wp2;go_quiet (fail);go_wp2;go_ret3;exact HP.out _ _ (by rw[Hf.out,Hat.out]) (uC hw1 _)
 ·have Hf:=eh (show effF p mine ⟨33,xa,xb,xn⟩=(mine.re,sE,true)from rfl);have hT:=Hth.out (by omega);clear hA Hth;obtain⟨bc,offc,Aj,cj,eA,hbl,y0,y1,y2,y3,_⟩:=mth_at hrm.out hm;injection eA with eA
  injection eA with eA1 eA2
  subst eA1 eA2;rw[hmine]at y0 y1 y2 y3;clear hT hrc hrm;go_wp2;go_ret3;exact HP.out _ _ Hf.out hw1
 ·have Hf:=eh (show effF p mine ⟨34,xa,xb,xn⟩=(sE,sI,true)from rfl);have hT:=Hth.out (by omega);clear hA Hth;clear hT;go_wp2;go_ret3;exact HP.out _ _ Hf.out hw1
 ·have Hf:=eh (show effF p mine ⟨35,xa,xb,xn⟩=(sI,sE,true)from rfl);have hT:=Hth.out (by omega);clear hA Hth;clear hT;go_wp2;go_ret3;exact HP.out _ _ Hf.out hw1
 ·have Hf:=eh (show effF p mine ⟨op,xa,xb,xn⟩=(sE,sE,false) by unfold effF;rw[if_neg hA];simp[*]);have hg:decide (8≤op)=false∨decide (op≤20)=false:=by
   simp only[decide_eq_false_iff_not];omega
  have g1:(op==1)=false:=by simp;omega
  have g2:(op==2)=false:=by simp;omega
  have g3:(op==3)=false:=by simp;omega
  have g4:(op==4)=false:=by simp;omega
  have g18:(op==18)=false:=by simp;omega
  have g21:(op==21)=false:=by simp;omega
  have g22:(op==22)=false:=by simp;omega
  have g23:(op==23)=false:=by simp;omega
  have g24:(op==24)=false:=by simp;omega
  have g25:(op==25)=false:=by simp;omega
  have g26:(op==26)=false:=by simp;omega
  have g27:(op==27)=false:=by simp;omega
  have g28:(op==28)=false:=by simp;omega
  have g29:(op==29)=false:=by simp;omega
  have g30:(op==30)=false:=by simp;omega
  have g31:(op==31)=false:=by simp;omega
  have g32:(op==32)=false:=by simp;omega
  have g33:(op==33)=false:=by simp;omega
  have g34:(op==34)=false:=by simp;omega
  have g35:(op==35)=false:=by simp;omega
  clear hA n1 n2 n3 n4 n18 n21 n22 n23 n24 n25 n26 n27 n28 n29 n30 n31 n32 n33 n34 n35;rcases hg with hg|hg
  ·go_wp2
   all_goals
    go_ret3;exact HP.out _ _ Hf.out hw1
  ·go_wp2
   all_goals
    go_ret3;exact HP.out _ _ Hf.out hw1
end Go.Proofs.YtgbgbmdiomhfiaaGreatDoor
namespace Go.Proofs.YtgbgbmdiomhfiaaGreatDoor
open Go.Shelf
def lays112_ren:Go.Shelf.Ren:=⟨fun |112=>115|n=>n,fun |28=>38|3=>3|4=>4|0=>0|n=>n,fun |n=>n⟩
theorem lays112:Go.Proofs.Lays.n112 Tryz.prog lays112_ren:={
 mixed:=by kernel_rfl
 f112:=Tryz.func115.trans (congrArg some (by kernel_rfl))
 t0:=Tryz.underlying0
 a0:=Tryz.isAgg0
 z0:=Tryz.sizeOf0
 v0:=Tryz.zeroValue0
 t3:=Tryz.underlying3
 a3:=Tryz.isAgg3
 z3:=Tryz.sizeOf3
 v3:=Tryz.zeroValue3
 t4:=Tryz.underlying4
 a4:=Tryz.isAgg4
 z4:=Tryz.sizeOf4
 v4:=Tryz.zeroValue4
 t28:=Tryz.underlying38
 a28:=Tryz.isAgg38
 z28:=Tryz.sizeOf38
 v28:=Tryz.zeroValue38}
end Go.Proofs.YtgbgbmdiomhfiaaGreatDoor