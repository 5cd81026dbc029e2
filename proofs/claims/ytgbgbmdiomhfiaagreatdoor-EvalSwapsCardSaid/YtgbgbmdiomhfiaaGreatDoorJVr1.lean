/-
 PgNext, VrPure, Shelf4, Vr1, LvP, PgRNext.
-/
import Derived.Shelf.Sort.Plain
import Derived.Shelf.Strings.Prefix
import Derived.Shelf.Slices.Equal
import Derived.Shelf.Slices.Empties2
import Derived.Test.YtgbgbmdiomhfiaaGreatDoorProg
import Derived.Deep.CutBlock
import Derived.Test.YtgbgbmdiomhfiaaGreatDoorJPgFair
import Derived.Test.YtgbgbmdiomhfiaaGreatDoorJPgEff3
import Derived.Test.YtgbgbmdiomhfiaaGreatDoorJSettlePure
import Derived.Test.YtgbgbmdiomhfiaaGreatDoorJBt1
import Derived.Test.YtgbgbmdiomhfiaaGreatDoorJMk
set_option linter.unusedSimpArgs false
set_option linter.unusedVariables false
set_option maxHeartbeats 8000000
set_option maxRecDepth 1000000
namespace Go.Proofs.YtgbgbmdiomhfiaaGreatDoor
open Go.RowKit Go.Maps
def nextF(m:Mth)(pc:Int):List Int:=
 if inB pc m.code.length=false then[]
 else if(m.code.getD pc.toNat default).op=33 then[]
 else if(m.code.getD pc.toNat default).op=22 then[(m.code.getD pc.toNat default).a]
 else if(m.code.getD pc.toNat default).op=23 then cmp2 (lo2 (m.code.getD pc.toNat default).a (pc+1)) (hi2 (m.code.getD pc.toNat default).a (pc+1))
 else[pc+1]
def bkI(x:Ins)(pc:Int):Bool:=(x.op==22||x.op==23)&&decide (x.a≤pc)
def backF(m:Mth)(pc:Int):Bool:=inB pc m.code.length&&bkI (m.code.getD pc.toNat default) pc
def RowPost(w:World)(l:List Int)(e:Ending)(w':World):Prop:=∃A n c,n≤2∧e=.returned (.slice A n c)∧Rd w' w'.heap.size 1 A n (ints l)∧Below w.heap.size w w'
theorem below_of_grown{B g:Nat}{w w':World}(h:w.grownBy w' (some g))(hg:B≤g)(hB:B≤w.heap.size):Below B w w':=(Below.refl B w).grown h hB (fun j hj=>by
 have :g=j:=by simpa using hj
 omega)
theorem next_any(A:Option Addr)(c:Nat)(m:Mth)(pc:Int)(w:World)(hr:Rd w w.heap.size 4 A m.code.length (icells m.code))(hm:m.code.length≤9223372036854775807):
 Calls Tryz.prog 38 #[mv A c m,.int .i64 pc] w (RowPost w (nextF m pc)):=by
 have hF:nextF m pc=if inB pc m.code.length=false then[]
 else if(m.code.getD pc.toNat default).op=33 then[]
 else if(m.code.getD pc.toNat default).op=22 then[(m.code.getD pc.toNat default).a]
 else if(m.code.getD pc.toNat default).op=23 then cmp2 (lo2 (m.code.getD pc.toNat default).a (pc+1)) (hi2 (m.code.getD pc.toNat default).a (pc+1))
 else[pc+1]:=rfl
 have hP:∀l A n c w',nextF m pc=l→n≤2→Rd w' w'.heap.size 1 A n (ints l)→Below w.heap.size w w'→RowPost w (nextF m pc) (.returned (.slice A n c)) w':=fun l A n c w' e h1 h2 h3=>⟨A,n,c,h1,rfl,by rw[e];exact h2,h3⟩
 have HP:=eh hP;clear hP;generalize RowPost w (nextF m pc)=Post at*;cases hi:inB pc m.code.length with
 |false=>
  rw[hi]at hF;have HF:=eh hF;clear hF;go_enter Tryz.func38,Tryz.ntmps38;go_wp2_with (go_at_call 64;refine(in_any _ _ _).mono ?_;rintro e w' ⟨rfl,rfl⟩);exact HP.out [] _ _ _ _ HF.out (by omega) (Rd.nil _ _ _ _) ((Below.refl _ _).alloc (Nat.le_refl _) _)
 |true=>
  have hx:=uJ hi;obtain⟨k,rfl⟩:∃k:Nat,pc=k:=⟨pc.toNat,by omega⟩;have hkl:k<m.code.length:=by omega
  obtain⟨b,off,rfl,hbb,x0,x1,x2,x3⟩:=ins_at hr hkl;have k0:(0:Int)≤k:=by omega
  have k1:(k:Int)<m.code.length:=by omega
  rw[if_neg (by simp[hi])]at hF;simp only[Int.toNat_natCast]at hF;generalize m.code.getD k default=x at*;obtain⟨op,xa,xb,xn⟩:=x;simp only at hF x0 x1 x2 x3;have hc:op=33∨op=22∨op=23∨(op≠33∧op≠22∧op≠23):=by omega
  rcases hc with e|e|e|⟨e1,e2,e3⟩
  ·have HF:=eh (show nextF m k=[] by rw[hF,if_pos e]);have f1:(op==33)=true:=by simp[e]
   clear hF e;go_enter Tryz.func38,Tryz.ntmps38;go_wp2_with (go_at_call 64;refine(in_any _ _ _).mono ?_;rintro e w' ⟨rfl,rfl⟩);exact HP.out [] _ _ _ _ HF.out (by omega) (Rd.nil _ _ _ _) (((Below.refl _ _).alloc (Nat.le_refl _) _).alloc (by simp) _)
  ·have HF:=eh (show nextF m k=[xa] by rw[hF,if_neg (by omega),if_pos e]);have f1:(op==33)=false:=by simp;omega
   have f2:(op==22)=true:=by simp[e]
   clear hF e;go_enter Tryz.func38,Tryz.ntmps38;go_wp2_with (go_at_call 64;refine(in_any _ _ _).mono ?_;rintro e w' ⟨rfl,rfl⟩);exact HP.out [xa] _ _ _ _ HF.out (by omega) (Blk.rd (xs:=ints [xa]) (Blk.newAt (by simp) _ _) rfl (by simp)) ((((Below.refl _ _).alloc (Nat.le_refl _) _).alloc (by simp) _).alloc (by simp;omega) _)
  ·have HF:=eh (show nextF m k=cmp2 (lo2 xa (k+1)) (hi2 xa (k+1)) by rw[hF,if_neg (by omega),if_neg (by omega),if_pos e]);have f1:(op==33)=false:=by simp;omega
   have f2:(op==22)=false:=by simp;omega
   have f3:(op==23)=true:=by simp[e]
   clear hF e;go_enter Tryz.func38,Tryz.ntmps38;go_wp2_with (go_at_call 64;refine(in_any _ _ _).mono ?_;rintro e w' ⟨rfl,rfl⟩);have hw3:=(((Below.refl w.heap.size w).alloc (Nat.le_refl _) (.cells #[.string m.pa,.string m.lo,.string m.re,.slice (some ⟨b,off,none⟩) m.code.length c] 27)).alloc (by simp) (.cells #[.int .i64 op,.int .i64 xa,.int .i64 xb,.int .i64 xn] 24)).alloc (by simp;omega) (.cells #[.int .i64 xa,.int .i64 ((k:Int)+1)] 3);refine(sort2_any _ xa (k+1) _ (Blk.newAt (by simp) _ _)).mono ?_;rintro e w4 ⟨rfl,h4,g4⟩;have hw4:=hw3.trans (below_of_grown g4 (by omega) hw3.size);go_wp2_with fail;refine(compact2_any _ _ _ _ h4).mono ?_;rintro e w5 ⟨n5,hn5,rfl,r5,g5⟩;have hw5:=hw4.trans (below_of_grown g5 (by omega) hw4.size);go_wp2;exact HP.out _ _ _ _ _ HF.out hn5 (r5.more (by have:=h4.lt;have:=g5.size;omega)) hw5
  ·have HF:=eh (show nextF m k=[(k:Int)+1] by rw[hF,if_neg e1,if_neg e2,if_neg e3]);have f1:(op==33)=false:=by simp;omega
   have f2:(op==22)=false:=by simp;omega
   have f3:(op==23)=false:=by simp;omega
   clear hF e1 e2 e3;go_enter Tryz.func38,Tryz.ntmps38;go_wp2_with (go_at_call 64;refine(in_any _ _ _).mono ?_;rintro e w' ⟨rfl,rfl⟩);exact HP.out [(k:Int)+1] _ _ _ _ HF.out (by omega) (Blk.rd (xs:=ints [(k:Int)+1]) (Blk.newAt (by simp) _ _) rfl (by simp)) ((((Below.refl _ _).alloc (Nat.le_refl _) _).alloc (by simp) _).alloc (by simp;omega) _)
theorem back_any(A:Option Addr)(c:Nat)(m:Mth)(pc:Int)(w:World)(hr:Rd w w.heap.size 4 A m.code.length (icells m.code))(hm:m.code.length≤9223372036854775807):
 Calls Tryz.prog 59 #[mv A c m,.int .i64 pc] w fun e w'=>e=.returned (.bool (backF m pc))∧Below w.heap.size w w':=by
 have hF:backF m pc=(inB pc m.code.length&&bkI (m.code.getD pc.toNat default) pc):=rfl;generalize backF m pc=bf at*;cases hi:inB pc m.code.length with
 |false=>
  rw[hi]at hF;have HF:=eh hF;clear hF;go_enter Tryz.func59,Tryz.ntmps59;go_wp2_with (go_at_call 64;refine(in_any _ _ _).mono ?_;rintro e w' ⟨rfl,rfl⟩);go_ret;exact⟨uV (by rw[HF.out];rfl),(Below.refl _ _).alloc (Nat.le_refl _) _⟩
 |true=>
  have hx:=uJ hi;obtain⟨k,rfl⟩:∃k:Nat,pc=k:=⟨pc.toNat,by omega⟩;have hkl:k<m.code.length:=by omega
  obtain⟨b,off,rfl,hbb,x0,x1,x2,x3⟩:=ins_at hr hkl;have k0:(0:Int)≤k:=by omega
  have k1:(k:Int)<m.code.length:=by omega
  rw[hi]at hF;simp only[Int.toNat_natCast]at hF;generalize m.code.getD k default=x at*;obtain⟨op,xa,xb,xn⟩:=x;have hI:bkI ⟨op,xa,xb,xn⟩ k=((op==22||op==23)&&decide (xa≤k)):=rfl;rw[hI]at hF;clear hI;simp only at x0 x1 x2 x3;have HF:=eh hF;clear hF;cases e1:(op==22)with
  |true=>
   rw[e1]at HF;go_enter Tryz.func59,Tryz.ntmps59;go_wp2_with (go_at_call 64;refine(in_any _ _ _).mono ?_;rintro e w' ⟨rfl,rfl⟩);go_ret;exact⟨uV (by rw[HF.out];simp),((Below.refl _ _).alloc (Nat.le_refl _) _).alloc (by simp) _⟩
  |false=>
   cases e2:(op==23)with
   |true=>
    rw[e1,e2]at HF;go_enter Tryz.func59,Tryz.ntmps59;go_wp2_with (go_at_call 64;refine(in_any _ _ _).mono ?_;rintro e w' ⟨rfl,rfl⟩);go_ret;exact⟨uV (by rw[HF.out];simp),((Below.refl _ _).alloc (Nat.le_refl _) _).alloc (by simp) _⟩
   |false=>
    rw[e1,e2]at HF;go_enter Tryz.func59,Tryz.ntmps59;go_wp2_with (go_at_call 64;refine(in_any _ _ _).mono ?_;rintro e w' ⟨rfl,rfl⟩);go_ret;exact⟨uV (by rw[HF.out];simp),((Below.refl _ _).alloc (Nat.le_refl _) _).alloc (by simp) _⟩
def chkF(op:Int)(b:ByteArray):Option ByteArray:=if 12<b.size∨op=33∧b.toList≠[]then none else some b
def aftF(p:Prg)(mine:Mth)(x:Ins)(s:ByteArray):Option ByteArray:=
 if x.op=6 then if s.size<1 then none else some (s.extract 0 (s.size-1))
 else if x.op=5 then if s.size<1 then none else chkF x.op (s++s.extract (s.size-1) s.size)
 else if x.op=7 then if s.size<2 then none else chkF x.op (s.extract 0 (s.size-2)++s.extract (s.size-1) s.size++s.extract (s.size-2) (s.size-1))
 else if s.size<(effF p mine x).1.size then none
 else if s.extract (s.size-(effF p mine x).1.size) s.size≠(effF p mine x).1 then none
 else chkF x.op (s.extract 0 (s.size-(effF p mine x).1.size)++(effF p mine x).2.1)
theorem chkF_le{op:Int}{b c:ByteArray}(h:chkF op b=some c):c.size≤12:=by
 unfold chkF at h;split at h
 ·cases h
 ·cases h;omega
theorem aftF_le{p:Prg}{mine:Mth}{x:Ins}{s b:ByteArray}(hs:s.size≤12)(h:aftF p mine x s=some b):b.size≤12:=by
 unfold aftF at h;generalize effF p mine x=f at h
 by_cases h6:x.op=6
 ·rw[if_pos h6]at h
  by_cases h1:s.size<1
  ·rw[if_pos h1]at h;cases h
  ·rw[if_neg h1]at h;have e:=Option.some.inj h;rw[←e,ByteArray.size_extract];omega
 ·rw[if_neg h6]at h
  by_cases h5:x.op=5
  ·rw[if_pos h5]at h
   by_cases h1:s.size<1
   ·rw[if_pos h1]at h;cases h
   ·rw[if_neg h1]at h;exact chkF_le h
  ·rw[if_neg h5]at h
   by_cases h7:x.op=7
   ·rw[if_pos h7]at h
    by_cases h1:s.size<2
    ·rw[if_pos h1]at h;cases h
    ·rw[if_neg h1]at h;exact chkF_le h
   ·rw[if_neg h7]at h
    by_cases h1:s.size<f.1.size
    ·rw[if_pos h1]at h;cases h
    ·rw[if_neg h1]at h
     by_cases h2:s.extract (s.size-f.1.size) s.size≠f.1
     ·rw[if_pos h2]at h;cases h
     ·rw[if_neg h2]at h;exact chkF_le h
def flowTo(n:Nat)(b:ByteArray):List Int→List ByteArray→List Bool→Option (List ByteArray×List Bool)
 | [],st,se=>some (st,se)
 |k::r,st,se=>
  if(n:Int)≤k then none
  else if se.getD k.toNat false=false then flowTo n b r (st.set k.toNat b) (se.set k.toNat true)
  else if st.getD k.toNat ⟨#[]⟩=b then flowTo n b r st se else none
structure Vs where
 stacks:List ByteArray
 seen:List Bool
 done:List Bool
 most:Nat
def pickF(s:Vs)(n:Nat):Nat:=((List.range n).find? fun pc=>s.seen.getD pc false&& !s.done.getD pc false).getD n
def lookF(p:Prg)(m:Mth)(s:Vs)(pc:Nat):Option Vs:=
 match aftF p m (m.code.getD pc default) (s.stacks.getD pc ⟨#[]⟩)with
 |none=>none
 |some b=>match flowTo m.code.length b (nextF m pc) s.stacks s.seen with
  |none=>none
  |some (st,se)=>some ⟨st,se,s.done.set pc true,max (max s.most (s.stacks.getD pc ⟨#[]⟩).size) b.size⟩
def vrun(p:Prg)(m:Mth):Nat→Vs→Option Vs
 |0,_=>none
 |f+1,s=>if pickF s m.code.length=m.code.length then some s else
  match lookF p m s (pickF s m.code.length)with
  |none=>none
  |some s'=>vrun p m f s'
def vstart(m:Mth):Vs:=⟨List.replicate m.code.length ⟨#[]⟩,(List.replicate m.code.length false).set 0 true,List.replicate m.code.length false,0⟩
def verM(p:Prg)(m:Mth):Option Vs:=vrun p m (m.code.length+1) (vstart m)
section
variable {p:Prg} {m:Mth} {s s':Vs} {n:Nat}
theorem find_range(f:Nat→Bool)(n:Nat):(((List.range n).find? f).getD n=n∧∀j,j<n→f j=false)∨(((List.range n).find? f).getD n<n∧f (((List.range n).find? f).getD n)=true∧∀j,j<((List.range n).find? f).getD n→f j=false):=by
 cases h:(List.range n).find? f with
 |none=>
  refine .inl ⟨rfl,fun j hj=>?_⟩;rw[List.find?_eq_none]at h;simpa using h j (List.mem_range.2 hj)
 |some k=>
  rw[List.find?_range_eq_some]at h;exact .inr ⟨by simpa using h.2.1,h.1,fun j hj=>by simpa using h.2.2 j hj⟩
theorem pick_at{pc:Nat}(hpc:pc≤n)(hb:∀j,j<pc→(s.seen.getD j false&& !s.done.getD j false)=false)(hx:pc<n→(s.seen.getD pc false&& !s.done.getD pc false)=true):pickF s n=pc:=by
 unfold pickF;rcases find_range (fun pc=>s.seen.getD pc false&& !s.done.getD pc false) n with⟨e,h⟩|⟨h1,h2,h3⟩
 ·rw[e]
  by_cases hl:pc<n
  ·have h1:=h pc hl;have h2:=hx hl;rw[h1]at h2;cases h2
  ·omega
 ·generalize((List.range n).find? fun pc=>s.seen.getD pc false&& !s.done.getD pc false).getD n=q at*
  by_cases h4:q<pc
  ·have:=hb q h4;rw[h2]at this;cases this
  ·by_cases h5:pc<q
   ·have h6:=h3 pc h5;have h7:=hx (by omega);rw[h6]at h7;cases h7
   ·omega
structure VInv(p:Prg)(m:Mth)(s:Vs):Prop where
 l1:s.stacks.length=m.code.length
 l2:s.seen.length=m.code.length
 l3:s.done.length=m.code.length
 le:∀k,(s.stacks.getD k ⟨#[]⟩).size≤12
 zero:s.seen.getD 0 false=true∧s.stacks.getD 0 ⟨#[]⟩=⟨#[]⟩
 don:∀k,s.done.getD k false=true→s.seen.getD k false=true∧∃b,aftF p m (m.code.getD k default) (s.stacks.getD k ⟨#[]⟩)=some b∧
  ∀j,j∈nextF m k→0≤j∧j<m.code.length∧s.seen.getD j.toNat false=true∧s.stacks.getD j.toNat ⟨#[]⟩=b
structure VOk(p:Prg)(m:Mth)(s:Vs):Prop extends VInv p m s where
 all:∀k,s.seen.getD k false=true→s.done.getD k false=true
theorem getD_set{α:Type}(l:List α)(i j:Nat)(v d:α):(l.set i v).getD j d=if j=i∧i<l.length then v else l.getD j d:=by
 by_cases e:j=i
 ·subst e
  by_cases hl:j<l.length
  ·simp[hl]
  ·simp[hl]
 ·have e':¬i=j:=fun h=>e h.symm
  simp[e,e']
theorem flowTo_ok{b:ByteArray}:∀{l:List Int} {st st':List ByteArray} {se se':List Bool},(∀j∈l,0≤j)→st.length=n→se.length=n→flowTo n b l st se=some (st',se')→
 st'.length=n∧se'.length=n∧(∀k,se.getD k false=true→se'.getD k false=true∧st'.getD k ⟨#[]⟩=st.getD k ⟨#[]⟩)∧(∀j∈l,j<n∧se'.getD j.toNat false=true∧st'.getD j.toNat ⟨#[]⟩=b)∧
  (∀k,st'.getD k ⟨#[]⟩=st.getD k ⟨#[]⟩∨st'.getD k ⟨#[]⟩=b)
 | [],st,st',se,se',_,h1,h2,h=>by
   simp only[flowTo,Option.some.injEq,Prod.mk.injEq]at h;obtain⟨rfl,rfl⟩:=h;exact⟨h1,h2,fun k hk=>⟨hk,rfl⟩,fun j hj=>(by cases hj),fun k=>.inl rfl⟩
 |j::r,st,st',se,se',hn,h1,h2,h=>by
  have hj0:=hn j (by simp);have hr:∀i∈r,0≤i:=fun i hi=>hn i (by simp[hi])
  unfold flowTo at h
  by_cases hge:(n:Int)≤j
  ·rw[if_pos hge]at h;cases h
  ·rw[if_neg hge]at h;have hjn:j.toNat<n:=by omega
   cases hs:se.getD j.toNat false with
   |false=>
    rw[hs,if_pos rfl]at h;obtain⟨a1,a2,a3,a4,a5⟩:=flowTo_ok hr (by simpa using h1) (by simpa using h2) h;have hset:(st.set j.toNat b).getD j.toNat ⟨#[]⟩=b:=by rw[getD_set,if_pos ⟨rfl,by omega⟩]
    have hse:(se.set j.toNat true).getD j.toNat false=true:=by rw[getD_set,if_pos ⟨rfl,by omega⟩]
    refine⟨a1,a2,fun k hk=>?_,fun i hi=>?_,fun k=>?_⟩
    ·have hne:k≠j.toNat:=fun e=>by subst e;rw[hs]at hk;cases hk
     obtain⟨b1,b2⟩:=a3 k (by rw[getD_set,if_neg (by simp[hne])];exact hk);exact⟨b1,by rw[b2,getD_set,if_neg (by simp[hne])]⟩
    ·rcases List.mem_cons.1 hi with rfl|hi
     ·obtain⟨b1,b2⟩:=a3 i.toNat hse;exact⟨by omega,b1,by rw[b2,hset]⟩
     ·exact a4 i hi
    ·rcases a5 k with h|h
     ·rw[h,getD_set];split
      ·exact .inr rfl
      ·exact .inl rfl
     ·exact .inr h
   |true=>
    rw[hs,if_neg (by simp)]at h
    by_cases hb:st.getD j.toNat ⟨#[]⟩=b
    ·rw[if_pos hb]at h;obtain⟨a1,a2,a3,a4,a5⟩:=flowTo_ok hr h1 h2 h;refine⟨a1,a2,a3,fun i hi=>?_,a5⟩;rcases List.mem_cons.1 hi with rfl|hi
     ·obtain⟨b1,b2⟩:=a3 i.toNat hs;exact⟨by omega,b1,by rw[b2,hb]⟩
     ·exact a4 i hi
    ·rw[if_neg hb]at h;cases h
theorem VInv.start(hc:0<m.code.length):VInv p m (vstart m):=by
 have hz:∀k,(List.replicate m.code.length (⟨#[]⟩:ByteArray)).getD k ⟨#[]⟩=⟨#[]⟩:=fun k=>by
  simp only[List.getD_eq_getElem?_getD,List.getElem?_replicate];split<;>rfl
 have hf:∀k,(List.replicate m.code.length false).getD k false=false:=fun k=>by
  simp only[List.getD_eq_getElem?_getD,List.getElem?_replicate];split<;>rfl
 refine⟨by simp[vstart],by simp[vstart],by simp[vstart],fun k=>?_,⟨?_,?_⟩,fun k hk=>?_⟩
 ·simp only[vstart,hz];decide
 ·simp only[vstart];rw[getD_set,if_pos ⟨rfl,by simpa using hc⟩]
 ·simp only[vstart,hz]
 ·simp only[vstart,hf]at hk;cases hk
theorem VInv.look(I:VInv p m s)(hn:∀k,k<m.code.length→∀j∈nextF m k,0≤j){pc:Nat}(hpc:pc<m.code.length)(hs:s.seen.getD pc false=true)(h:lookF p m s pc=some s'):VInv p m s':=by
 unfold lookF at h;cases ha:aftF p m (m.code.getD pc default) (s.stacks.getD pc ⟨#[]⟩)with
 |none=>rw[ha]at h;cases h
 |some b=>
  rw[ha]at h;simp only at h;cases hf:flowTo m.code.length b (nextF m pc) s.stacks s.seen with
  |none=>rw[hf]at h;cases h
  |some q=>
   obtain⟨st,se⟩:=q;rw[hf]at h;simp only[Option.some.injEq]at h;subst h;obtain⟨a1,a2,a3,a4,a5⟩:=flowTo_ok (hn pc hpc) I.l1 I.l2 hf;have hb:=aftF_le (I.le pc) ha;refine⟨a1,a2,by simp[I.l3],fun k=>?_,⟨(a3 0 I.zero.1).1,(a3 0 I.zero.1).2.trans I.zero.2⟩,fun k hk=>?_⟩
   ·rcases a5 k with h|h
    ·simp only[h];exact I.le k
    ·simp only[h];exact hb
   ·simp only at hk⊢
    by_cases e:k=pc
    ·subst e;refine⟨(a3 k hs).1,b,by rw[(a3 k hs).2];exact ha,fun j hj=>?_⟩;obtain⟨b1,b2,b3⟩:=a4 j hj;exact⟨hn k hpc j hj,b1,b2,b3⟩
    ·rw[getD_set,if_neg (by simp[e])]at hk;obtain⟨c1,b',c2,c3⟩:=I.don k hk;refine⟨(a3 k c1).1,b',by rw[(a3 k c1).2];exact c2,fun j hj=>?_⟩;obtain⟨d1,d2,d3,d4⟩:=c3 j hj;exact⟨d1,d2,(a3 _ d3).1,by rw[(a3 _ d3).2];exact d4⟩
theorem vrun_ok(hn:∀k,k<m.code.length→∀j∈nextF m k,0≤j):∀(f:Nat) {s:Vs},VInv p m s→vrun p m f s=some s'→VOk p m s'
 |0,s,_,h=>by cases h
 |f+1,s,I,h=>by
  unfold vrun at h;rcases find_range (fun pc=>s.seen.getD pc false&& !s.done.getD pc false) m.code.length with⟨e,h1⟩|⟨h1,h2,_⟩
  ·have e':pickF s m.code.length=m.code.length:=e;rw[if_pos e']at h;cases h;refine⟨I,fun k hk=>?_⟩
   by_cases hl:k<m.code.length
   ·have:=h1 k hl;simp only[hk,Bool.true_and]at this;simpa using this
   ·rw[List.getD_eq_getElem?_getD,List.getElem?_eq_none (by rw[I.l2];omega)]at hk;cases hk
  ·have h1':pickF s m.code.length<m.code.length:=h1;have h2':(s.seen.getD (pickF s m.code.length) false&& !s.done.getD (pickF s m.code.length) false)=true:=h2;rw[if_neg (by omega)]at h;simp only[Bool.and_eq_true]at h2';cases hl:lookF p m s (pickF s m.code.length)with
   |none=>rw[hl]at h;cases h
   |some s1=>
    rw[hl]at h;exact vrun_ok hn f (I.look hn h1' h2'.1 hl) h
theorem verM_ok(hn:∀k,k<m.code.length→∀j∈nextF m k,0≤j)(hc:0<m.code.length)(h:verM p m=some s):VOk p m s:=vrun_ok hn _ (VInv.start hc) h
theorem next_nonneg{cl:List ByteArray}{nm locals:Nat}{mm:Mth}(hins:∀k,k<mm.code.length→insBad cl nm locals mm.code.length (mm.code.getD k default)=0)(k:Nat)(hk:k<mm.code.length):∀i∈nextF mm k,0≤i:=by
 intro i hi;have hin:inB (k:Int) mm.code.length=true:=by
  unfold inB;simp;omega
 have hb:=hins k hk;unfold nextF at hi;rw[if_neg (by rw[hin];simp)]at hi;simp only[Int.toNat_natCast]at hi;generalize mm.code.getD k default=x at*;generalize mm.code.length=n at*;have hjump:x.op=22∨x.op=23→0≤x.a:=fun ho=>by
  unfold insBad at hb;split at hb
  ·cases hb
  ·split at hb
   ·cases hb
   ·rename_i _ h2;have hb2:inB x.a n=true:=by
     cases e:inB x.a n with
     |true=>rfl
     |false=>exact absurd ⟨ho,e⟩ h2
    exact(uJ hb2).1
 by_cases h33:x.op=33
 ·rw[if_pos h33]at hi;cases hi
 ·rw[if_neg h33]at hi
  by_cases h22:x.op=22
  ·rw[if_pos h22]at hi;have e:i=x.a:=by simpa using hi
   rw[e];exact hjump (.inl h22)
  ·rw[if_neg h22]at hi
   by_cases h23:x.op=23
   ·rw[if_pos h23]at hi;have h0:=hjump (.inr h23);unfold cmp2 at hi;have h1:0≤lo2 x.a ((k:Int)+1):=by unfold lo2;split<;>omega
    have h2:0≤hi2 x.a ((k:Int)+1):=by unfold hi2;split<;>omega
    split at hi
    ·have e:i=lo2 x.a ((k:Int)+1):=by simpa using hi
     rw[e];exact h1
    ·rcases List.mem_cons.1 hi with e|e
     ·rw[e];exact h1
     ·have e:i=hi2 x.a ((k:Int)+1):=by simpa using e
      rw[e];exact h2
   ·rw[if_neg h23]at hi;have e:i=(k:Int)+1:=by simpa using hi
    omega
theorem Fair.next{p:Prg}(h:Fair p){j:Nat}(hj:j<p.methods.length)(k:Nat)(hk:k<(p.methods.getD j default).code.length):∀i∈nextF (p.methods.getD j default) k,0≤i:=next_nonneg (h.ins j hj) k hk
end
end Go.Proofs.YtgbgbmdiomhfiaaGreatDoor
namespace Go.Proofs.YtgbgbmdiomhfiaaGreatDoor
open Go.Shelf
def lays189_ren:Go.Shelf.Ren:=⟨fun |189=>67|125=>106|257=>105|128=>143|129=>144|294=>134|295=>135|296=>136|297=>137|298=>138|299=>139|216=>140|300=>141|301=>142|328=>158|329=>159|330=>160|331=>161|332=>162|215=>163|343=>173|n=>n,fun |28=>38|3=>3|46=>221|0=>0|51=>187|53=>257|4=>4|183=>250|182=>249|131=>145|5=>5|9=>9|218=>269|222=>273|228=>290|229=>291|n=>n,fun |n=>n⟩
theorem lays189:Go.Proofs.Lays.n189 Tryz.prog lays189_ren:={
 mixed:=by kernel_rfl
 f125:=Tryz.func106.trans (congrArg some (by kernel_rfl))
 f128:=Tryz.func143.trans (congrArg some (by kernel_rfl))
 f129:=Tryz.func144.trans (congrArg some (by kernel_rfl))
 f189:=Tryz.func67.trans (congrArg some (by kernel_rfl))
 f215:=Tryz.func163.trans (congrArg some (by kernel_rfl))
 f216:=Tryz.func140.trans (congrArg some (by kernel_rfl))
 f257:=Tryz.func105.trans (congrArg some (by kernel_rfl))
 f294:=Tryz.func134.trans (congrArg some (by kernel_rfl))
 f295:=Tryz.func135.trans (congrArg some (by kernel_rfl))
 f296:=Tryz.func136.trans (congrArg some (by kernel_rfl))
 f297:=Tryz.func137.trans (congrArg some (by kernel_rfl))
 f298:=Tryz.func138.trans (congrArg some (by kernel_rfl))
 f299:=Tryz.func139.trans (congrArg some (by kernel_rfl))
 f300:=Tryz.func141.trans (congrArg some (by kernel_rfl))
 f301:=Tryz.func142.trans (congrArg some (by kernel_rfl))
 f328:=Tryz.func158.trans (congrArg some (by kernel_rfl))
 f329:=Tryz.func159.trans (congrArg some (by kernel_rfl))
 f330:=Tryz.func160.trans (congrArg some (by kernel_rfl))
 f331:=Tryz.func161.trans (congrArg some (by kernel_rfl))
 f332:=Tryz.func162.trans (congrArg some (by kernel_rfl))
 f343:=Tryz.func173.trans (congrArg some (by kernel_rfl))
 t0:=Tryz.underlying0
 a0:=Tryz.isAgg0
 z0:=Tryz.sizeOf0
 v0:=Tryz.zeroValue0
 t3:=Tryz.underlying3
 a3:=Tryz.isAgg3
 z3:=Tryz.sizeOf3
 v3:=Tryz.zeroValue3
 t4:=Tryz.underlying4
 a4:=Tryz.isAgg4
 z4:=Tryz.sizeOf4
 v4:=Tryz.zeroValue4
 t5:=Tryz.underlying5
 a5:=Tryz.isAgg5
 z5:=Tryz.sizeOf5
 v5:=Tryz.zeroValue5
 t9:=Tryz.underlying9
 a9:=Tryz.isAgg9
 z9:=Tryz.sizeOf9
 v9:=Tryz.zeroValue9
 t28:=Tryz.underlying38
 a28:=Tryz.isAgg38
 z28:=Tryz.sizeOf38
 v28:=Tryz.zeroValue38
 t46:=Tryz.underlying221
 a46:=Tryz.isAgg221
 z46:=Tryz.sizeOf221
 v46:=Tryz.zeroValue221
 t51:=Tryz.underlying187
 a51:=Tryz.isAgg187
 z51:=Tryz.sizeOf187
 v51:=Tryz.zeroValue187
 t53:=Tryz.underlying257
 a53:=Tryz.isAgg257
 z53:=Tryz.sizeOf257
 v53:=Tryz.zeroValue257
 t131:=Tryz.underlying145
 a131:=Tryz.isAgg145
 z131:=Tryz.sizeOf145
 v131:=Tryz.zeroValue145
 t182:=Tryz.underlying249
 a182:=Tryz.isAgg249
 z182:=Tryz.sizeOf249
 v182:=Tryz.zeroValue249
 t183:=Tryz.underlying250
 a183:=Tryz.isAgg250
 z183:=Tryz.sizeOf250
 v183:=Tryz.zeroValue250
 t218:=Tryz.underlying269
 a218:=Tryz.isAgg269
 z218:=Tryz.sizeOf269
 v218:=Tryz.zeroValue269
 t222:=Tryz.underlying273
 a222:=Tryz.isAgg273
 z222:=Tryz.sizeOf273
 v222:=Tryz.zeroValue273
 t228:=Tryz.underlying290
 a228:=Tryz.isAgg290
 z228:=Tryz.sizeOf290
 v228:=Tryz.zeroValue290
 t229:=Tryz.underlying291
 a229:=Tryz.isAgg291
 z229:=Tryz.sizeOf291
 v229:=Tryz.zeroValue291}
def lays100_ren:Go.Shelf.Ren:=⟨fun |100=>66|207=>104|n=>n,fun |9=>9|4=>4|3=>3|n=>n,fun |n=>n⟩
theorem lays100:Go.Proofs.Lays.n100 Tryz.prog lays100_ren:={
 mixed:=by kernel_rfl
 f100:=Tryz.func66.trans (congrArg some (by kernel_rfl))
 f207:=Tryz.func104.trans (congrArg some (by kernel_rfl))
 t3:=Tryz.underlying3
 a3:=Tryz.isAgg3
 z3:=Tryz.sizeOf3
 v3:=Tryz.zeroValue3
 t4:=Tryz.underlying4
 a4:=Tryz.isAgg4
 z4:=Tryz.sizeOf4
 v4:=Tryz.zeroValue4
 t9:=Tryz.underlying9
 a9:=Tryz.isAgg9
 z9:=Tryz.sizeOf9
 v9:=Tryz.zeroValue9}
def lays111_ren:Go.Shelf.Ren:=⟨fun |111=>46|n=>n,fun |28=>38|3=>3|4=>4|0=>0|n=>n,fun |n=>n⟩
theorem lays111:Go.Proofs.Lays.n111 Tryz.prog lays111_ren:={
 mixed:=by kernel_rfl
 f111:=Tryz.func46.trans (congrArg some (by kernel_rfl))
 t0:=Tryz.underlying0
 a0:=Tryz.isAgg0
 z0:=Tryz.sizeOf0
 v0:=Tryz.zeroValue0
 t3:=Tryz.underlying3
 a3:=Tryz.isAgg3
 z3:=Tryz.sizeOf3
 v3:=Tryz.zeroValue3
 t4:=Tryz.underlying4
 a4:=Tryz.isAgg4
 z4:=Tryz.sizeOf4
 v4:=Tryz.zeroValue4
 t28:=Tryz.underlying38
 a28:=Tryz.isAgg38
 z28:=Tryz.sizeOf38
 v28:=Tryz.zeroValue38}
end Go.Proofs.YtgbgbmdiomhfiaaGreatDoor
namespace Go.Proofs.YtgbgbmdiomhfiaaGreatDoor
open Go.RowKit Go.Maps
theorem eff_is{p:Prg}{mine:Mth}{x:Ins}(h1:1≤x.op)(h2:x.op≤35)(h5:x.op≠5)(h6:x.op≠6)(h7:x.op≠7):(effF p mine x).2.2=true:=by
 unfold effF
 iterate 17 (refine iteInduction (motive:=fun f:Eff=>f.2.2=true) (fun _=>rfl) (fun _=>?_))
 exfalso
 omega
theorem eff_no{p:Prg}{mine:Mth}{x:Ins}(h:x.op=5∨x.op=6∨x.op=7):effF p mine x=(sE,sE,false):=by
 unfold effF
 repeat rw[if_neg (by omega)]
theorem chk_some{op:Int}{b c:ByteArray}(h:chkF op b=some c):b=c∧b.size≤12∧¬(op=33∧b.toList≠[]):=by
 unfold chkF at h;split at h
 ·cases h
 ·rename_i hn;cases h;exact⟨rfl,by omega,fun h=>hn (.inr h)⟩
theorem ext_list(s:ByteArray)(i j:Nat):(s.extract i j).data.toList=(s.data.toList.take j).drop i:=by
 rw[ByteArray.data_extract,Array.toList_extract,List.extract_eq_take_drop,List.drop_take]
theorem ba_len(s:ByteArray):s.data.toList.length=s.size:=Array.length_toList
theorem ba_all(s:ByteArray):s.data.toList.take s.size=s.data.toList:=List.take_of_length_le (by rw[ba_len];exact Nat.le_refl _)
theorem ba_ext{a b:ByteArray}(h:a.data.toList=b.data.toList):a=b:=by
 apply ByteArray.ext;apply Array.ext';exact h
theorem app_list(a b:ByteArray):(a++b).data.toList=a.data.toList++b.data.toList:=by
 rw[ByteArray.data_append,Array.toList_append]
theorem suffix_of{s q:ByteArray}(h:s.extract (s.size-q.size) s.size=q):Lib.hasSuffix s.data.toList q.data.toList=true:=by
 unfold Lib.hasSuffix;rw[List.isSuffixOf_iff_suffix];refine⟨s.data.toList.take (s.size-q.size),?_⟩;have e:q.data.toList=s.data.toList.drop (s.size-q.size):=by
  have e1:=congrArg (fun z=>z.data.toList) h;rw[←e1];show(s.extract (s.size-q.size) s.size).data.toList=_;rw[ext_list,ba_all]
 rw[e,List.take_append_drop]
theorem ext_app(s:ByteArray)(i:Nat):s.extract 0 i++s.extract i s.size=s:=by
 apply ba_ext;rw[app_list,ext_list,ext_list,ba_all,List.drop_zero,List.take_append_drop]
theorem step_any(Ac Am:Option Addr)(cc cm:Nat)(p:Prg)(x:Ins)(m:Int)(s b:ByteArray)(w:World)(hr:RdP w w.heap.size Ac Am p)(hp:POk p)(hk:(methodF p m).pa.size+(methodF p m).lo.size≤1000)(h1:1≤x.op)(h2:x.op≤35)(hs:s.size≤12)
 (ha:aftF p (methodF p m) x s=some b):
 Calls Tryz.prog 37 #[pv Ac cc Am cm p,.int .i64 m,iv x,.string s] w fun e w'=>e=.returned (.tuple #[.string b,.nilIface])∧Below w.heap.size w w':=by
 have hw2:=((Below.refl w.heap.size w).alloc (Nat.le_refl _) (.cells #[.slice Ac p.classes.length cc,.slice Am p.methods.length cm] 31)).alloc (by simp) (.cells #[.int .i64 x.op,.int .i64 x.a,.int .i64 x.b,.int .i64 x.n] 24);have he:=fun W (hW:Below w.heap.size w W)=>effect_any Ac Am cc cm p x m W ((hr.below hW (Nat.le_refl _)).more hW.size) hp hk
 have bx:=Blk.newAt (w:=w.alloc (.cells #[.slice Ac p.classes.length cc,.slice Am p.methods.length cm] 31)) (g:=w.heap.size+1) (by simp) 24 #[.int .i64 x.op,.int .i64 x.a,.int .i64 x.b,.int .i64 x.n];unfold aftF at ha
 by_cases h6:x.op=6
 ·rw[if_pos h6]at ha;rw[eff_no (.inr (.inl h6))]at he
  by_cases g1:s.size<1
  ·rw[if_pos g1]at ha;cases ha
  ·rw[if_neg g1]at ha;have hb0:=Option.some.inj ha;have HE:=eh he;have e5:(x.op==5)=false:=by simp;omega
   have e7:(x.op==7)=false:=by simp;omega
   have hret:¬(x.op=33∧b.toList≠[]):=by omega
   have k1:¬(s.size:Int)<1:=by omega
   have hqz:(s.extract (s.size-1) s.size).size=1:=by rw[ByteArray.size_extract];omega
   have Hb:Hid (s.extract 0 (s.size-(s.extract (s.size-1) s.size).size)++sE=b):=eh (by rw[hqz,←hb0];exact ByteArray.append_empty);have hb12:b.size≤12:=by rw[←hb0,ByteArray.size_extract];omega
   have Hsx:=eh (suffix_of (s:=s) (q:=s.extract (s.size-1) s.size) (by rw[hqz]));clear he ha hr hp hk h6 hb0;go_enter Tryz.func37,Tryz.ntmps37;go_wp2_with fail;refine(HE.out _ hw2).mono ?_;rintro e w3 ⟨rfl,hb3⟩;have hw3:=hw2.trans (hb3.mono hw2.size);have bx3:=bx.below hb3 bx.lt;have y0:=bx3.at0;clear bx hw2 hb3;go_upto_region 10 with(fail);generalize s.extract (s.size-1) s.size=q at*;have hq1:q.size≤1:=by omega
   have hq2:1≤q.size:=by omega
   clear hqz;generalize sE=u at*;have hbs:(s.extract 0 (s.size-q.size)).size+u.size=b.size:=by rw[←Hb.out,ByteArray.size_append]
   have hpre:(s.extract 0 (s.size-q.size)).size=s.size-q.size:=by rw[ByteArray.size_extract];omega
   have o1:¬9223372036854775807<(s.extract 0 (s.size-q.size)).size+u.size:=by omega
   have o2:¬9223372036854775807<s.size-q.size+u.size:=by omega
   have o3:s.size-q.size+u.size≤9223372036854775807:=by omega
   have k0:¬(s.size:Int)<q.size:=by omega
   have k2:¬(12:Int)<b.size:=by omega
   have k3:((s.size:Int)-q.size)=((s.size-q.size:Nat):Int):=by omega
   clear hbs hpre;have Hsf:=eh (fun W=>Any.strings_HasSuffix lays100 s q W (by omega));go_wp2_with fail;refine(Hsf.out _).mono ?_;rintro e w4 ⟨rfl,rfl⟩;rw[Hsx.out];go_upto_region 20 with(fail);rw[Hb.out]
   by_cases h33:x.op=33
   ·have e33:(x.op==33)=true:=by simpa using h33
    have hbe:b.toList=[]:=by
     by_cases h:b.toList=[]
     ·exact h
     ·exact absurd ⟨h33,h⟩ hret
    clear hret h33;go_wp2;go_ret2;exact⟨rfl,hw3⟩
   ·have e33:(x.op==33)=false:=by simpa using h33
    clear hret h33;go_wp2;go_ret2;exact⟨rfl,hw3⟩
 ·rw[if_neg h6]at ha
  by_cases h5:x.op=5
  ·rw[if_pos h5]at ha;rw[eff_no (.inl h5)]at he
   by_cases g1:s.size<1
   ·rw[if_pos g1]at ha;cases ha
   ·rw[if_neg g1]at ha;obtain⟨hb0,hb12,hret⟩:=chk_some ha;rw[hb0]at hb12 hret;have HE:=eh he;have e5:(x.op==5)=true:=by simp[h5]
    have e7:(x.op==7)=false:=by simp;omega
    have k1:¬(s.size:Int)<1:=by omega
    have hqz:(s.extract (s.size-1) s.size).size=1:=by rw[ByteArray.size_extract];omega
    have Hb:Hid (s.extract 0 (s.size-(s.extract (s.size-1) s.size).size)++(s.extract (s.size-1) s.size++s.extract (s.size-1) s.size)=b):=eh (by rw[hqz,←hb0,←ByteArray.append_assoc,ext_app]);have Hsx:=eh (suffix_of (s:=s) (q:=s.extract (s.size-1) s.size) (by rw[hqz]));clear he ha hr hp hk h6 h5 hb0;go_enter Tryz.func37,Tryz.ntmps37;go_wp2_with fail;refine(HE.out _ hw2).mono ?_;rintro e w3 ⟨rfl,hb3⟩;have hw3:=hw2.trans (hb3.mono hw2.size);have bx3:=bx.below hb3 bx.lt;have y0:=bx3.at0;clear bx hw2 hb3;go_upto_region 10 with(fail);generalize s.extract (s.size-1) s.size=q at*;have hq1:q.size≤1:=by omega
    have hq2:1≤q.size:=by omega
    clear hqz;have o0:¬9223372036854775807<q.size+q.size:=by omega
    go_upto_region 15 with(fail);generalize q++q=u at*;have hbs:(s.extract 0 (s.size-q.size)).size+u.size=b.size:=by rw[←Hb.out,ByteArray.size_append]
    have hpre:(s.extract 0 (s.size-q.size)).size=s.size-q.size:=by rw[ByteArray.size_extract];omega
    have o1:¬9223372036854775807<(s.extract 0 (s.size-q.size)).size+u.size:=by omega
    have o2:¬9223372036854775807<s.size-q.size+u.size:=by omega
    have o3:s.size-q.size+u.size≤9223372036854775807:=by omega
    have k0:¬(s.size:Int)<q.size:=by omega
    have k2:¬(12:Int)<b.size:=by omega
    have k3:((s.size:Int)-q.size)=((s.size-q.size:Nat):Int):=by omega
    clear hbs hpre;have Hsf:=eh (fun W=>Any.strings_HasSuffix lays100 s q W (by omega));go_wp2_with fail;refine(Hsf.out _).mono ?_;rintro e w4 ⟨rfl,rfl⟩;rw[Hsx.out];go_upto_region 20 with(fail);rw[Hb.out]
    by_cases h33:x.op=33
    ·have e33:(x.op==33)=true:=by simpa using h33
     have hbe:b.toList=[]:=by
      by_cases h:b.toList=[]
      ·exact h
      ·exact absurd ⟨h33,h⟩ hret
     clear hret h33;go_wp2;go_ret2;exact⟨rfl,hw3⟩
    ·have e33:(x.op==33)=false:=by simpa using h33
     clear hret h33;go_wp2;go_ret2;exact⟨rfl,hw3⟩
  ·rw[if_neg h5]at ha
   by_cases h7:x.op=7
   ·rw[if_pos h7]at ha;rw[eff_no (.inr (.inr h7))]at he
    by_cases g1:s.size<2
    ·rw[if_pos g1]at ha;cases ha
    ·rw[if_neg g1]at ha;obtain⟨hb0,hb12,hret⟩:=chk_some ha;rw[hb0]at hb12 hret;have HE:=eh he;have e5:(x.op==5)=false:=by simp;omega
     have e7:(x.op==7)=true:=by simp[h7]
     have k1:¬(s.size:Int)<2:=by omega
     have hqz:(s.extract (s.size-2) s.size).size=2:=by rw[ByteArray.size_extract];omega
     have hq1:(s.extract (s.size-2) s.size).extract 1 (s.extract (s.size-2) s.size).size=s.extract (s.size-1) s.size:=by
      apply ba_ext;rw[hqz,ext_list,ext_list,ext_list,ba_all];rw[List.take_of_length_le (by rw[List.length_drop,ba_len];omega),List.drop_drop];congr 1;omega
     have hq0:(s.extract (s.size-2) s.size).extract 0 1=s.extract (s.size-2) (s.size-1):=by
      apply ba_ext;rw[ext_list,ext_list,ext_list,ba_all,List.drop_zero,List.take_drop];congr 2;omega
     have Hb:Hid (s.extract 0 (s.size-(s.extract (s.size-2) s.size).size)++((s.extract (s.size-2) s.size).extract 1 (s.extract (s.size-2) s.size).size++(s.extract (s.size-2) s.size).extract 0 1)=b):=eh (by rw[hq1,hq0,hqz,←hb0,ByteArray.append_assoc]);have Hsx:=eh (suffix_of (s:=s) (q:=s.extract (s.size-2) s.size) (by rw[hqz]));clear he ha hr hp hk h6 h5 h7 hb0 hq1 hq0;go_enter Tryz.func37,Tryz.ntmps37;go_wp2_with fail;refine(HE.out _ hw2).mono ?_;rintro e w3 ⟨rfl,hb3⟩;have hw3:=hw2.trans (hb3.mono hw2.size);have bx3:=bx.below hb3 bx.lt;have y0:=bx3.at0;clear bx hw2 hb3;go_upto_region 10 with(fail);generalize s.extract (s.size-2) s.size=q at*;have hq1:q.size≤2:=by omega
     have hq2:2≤q.size:=by omega
     clear hqz;have z1:(1:Int)≤q.size:=by omega
     have z2:1≤q.size:=by omega
     have z3:(q.extract 1 q.size).size=1:=by rw[ByteArray.size_extract];omega
     have z4:(q.extract 0 1).size=1:=by rw[ByteArray.size_extract];omega
     have o0:¬9223372036854775807<(q.extract 1 q.size).size+(q.extract 0 1).size:=by omega
     go_wp2;go_quiet (fail);rename Nat=>qq
     go_upto_region 15 with(fail);clear z1 z2 z3 z4 o0;generalize q.extract 1 q.size++q.extract 0 1=u at*;have hw3:=uC hw3 qq;have hbs:(s.extract 0 (s.size-q.size)).size+u.size=b.size:=by rw[←Hb.out,ByteArray.size_append]
     have hpre:(s.extract 0 (s.size-q.size)).size=s.size-q.size:=by rw[ByteArray.size_extract];omega
     have o1:¬9223372036854775807<(s.extract 0 (s.size-q.size)).size+u.size:=by omega
     have o2:¬9223372036854775807<s.size-q.size+u.size:=by omega
     have o3:s.size-q.size+u.size≤9223372036854775807:=by omega
     have k0:¬(s.size:Int)<q.size:=by omega
     have k2:¬(12:Int)<b.size:=by omega
     have k3:((s.size:Int)-q.size)=((s.size-q.size:Nat):Int):=by omega
     clear hbs hpre;have Hsf:=eh (fun W=>Any.strings_HasSuffix lays100 s q W (by omega));go_wp2_with fail;refine(Hsf.out _).mono ?_;rintro e w4 ⟨rfl,rfl⟩;rw[Hsx.out];go_upto_region 20 with(fail);rw[Hb.out]
     by_cases h33:x.op=33
     ·have e33:(x.op==33)=true:=by simpa using h33
      have hbe:b.toList=[]:=by
       by_cases h:b.toList=[]
       ·exact h
       ·exact absurd ⟨h33,h⟩ hret
      clear hret h33;go_wp2;go_ret2;exact⟨rfl,hw3⟩
     ·have e33:(x.op==33)=false:=by simpa using h33
      clear hret h33;go_wp2;go_ret2;exact⟨rfl,hw3⟩
   ·rw[if_neg h7]at ha;have hi:=eff_is (p:=p) (mine:=methodF p m) h1 h2 h5 h6 h7;obtain⟨⟨q,u,is⟩,hq⟩:∃f:Eff,f=effF p (methodF p m) x:=⟨_,rfl⟩;rw[←hq]at ha hi he;simp only at ha hi;subst hi
    by_cases g1:s.size<q.size
    ·rw[if_pos g1]at ha;cases ha
    ·rw[if_neg g1]at ha
     by_cases g2:s.extract (s.size-q.size) s.size=q
     ·rw[if_neg (by simpa using g2)]at ha;obtain⟨hb0,hb12,hret⟩:=chk_some ha;rw[hb0]at hb12 hret;have HE:=eh (fun W hW=>he W hW);have Hsx:=eh (suffix_of g2);have Hb:=eh hb0;clear he hq ha g2 hr hp hk hb0 h5 h6 h7;have hbs:(s.extract 0 (s.size-q.size)).size+u.size=b.size:=by rw[←Hb.out,ByteArray.size_append]
      have hpre:(s.extract 0 (s.size-q.size)).size=s.size-q.size:=by rw[ByteArray.size_extract];omega
      have o1:¬9223372036854775807<(s.extract 0 (s.size-q.size)).size+u.size:=by omega
      have o2:¬9223372036854775807<s.size-q.size+u.size:=by omega
      have o3:s.size-q.size+u.size≤9223372036854775807:=by omega
      have k0:¬(s.size:Int)<q.size:=by omega
      have k2:¬(12:Int)<b.size:=by omega
      have k3:((s.size:Int)-q.size)=((s.size-q.size:Nat):Int):=by omega
      clear hbs hpre;go_enter Tryz.func37,Tryz.ntmps37;go_wp2_with fail;refine(HE.out _ hw2).mono ?_;rintro e w3 ⟨rfl,hb3⟩;have hw3:=hw2.trans (hb3.mono hw2.size);have bx3:=bx.below hb3 bx.lt;have y0:=bx3.at0;clear bx hw2 hb3;have Hsf:=eh (fun W=>Any.strings_HasSuffix lays100 s q W (by omega));go_wp2_with fail;refine(Hsf.out _).mono ?_;rintro e w4 ⟨rfl,rfl⟩;rw[Hsx.out];go_upto_region 20 with(fail);rw[Hb.out]
      by_cases h33:x.op=33
      ·have e33:(x.op==33)=true:=by simpa using h33
       have hbe:b.toList=[]:=by
        by_cases h:b.toList=[]
        ·exact h
        ·exact absurd ⟨h33,h⟩ hret
       clear hret h33;go_wp2;go_ret2;exact⟨rfl,hw3⟩
      ·have e33:(x.op==33)=false:=by simpa using h33
       clear hret h33;go_wp2;go_ret2;exact⟨rfl,hw3⟩
     ·rw[if_pos (by simpa using g2)]at ha;cases ha
abbrev nloc(m:Mth):Nat:=m.pa.size+m.lo.size
def sub(x y:Nat):Prop:=x|||y=y
theorem sub_iff{x y:Nat}:sub x y↔∀j,x.testBit j=true→y.testBit j=true:=by
 constructor
 ·intro h j hj;have:=congrArg (fun z=>Nat.testBit z j) h;simp only[Nat.testBit_or,hj,Bool.true_or]at this;exact this.symm
 ·intro h;apply Nat.eq_of_testBit_eq;intro j;rw[Nat.testBit_or];cases e:x.testBit j with
  |false=>rfl
  |true=>rw[h j e];rfl
theorem sub_refl(x:Nat):sub x x:=sub_iff.2 fun _ h=>h
theorem sub_trans{x y z:Nat}(h:sub x y)(k:sub y z):sub x z:=sub_iff.2 fun j hj=>sub_iff.1 k j (sub_iff.1 h j hj)
theorem sub_anti{x y:Nat}(h:sub x y)(k:sub y x):x=y:=by
 unfold sub at h k;rw[Nat.or_comm]at k;rw[←h,k]
theorem sub_or{x y z:Nat}(h:sub x z)(k:sub y z):sub (x|||y) z:=sub_iff.2 fun j hj=>by
 rw[Nat.testBit_or,Bool.or_eq_true]at hj;exact hj.elim (sub_iff.1 h j) (sub_iff.1 k j)
theorem sub_left(x y:Nat):sub x (x|||y):=sub_iff.2 fun j hj=>by rw[Nat.testBit_or,hj];rfl
theorem sub_right(x y:Nat):sub y (x|||y):=sub_iff.2 fun j hj=>by rw[Nat.testBit_or,hj,Bool.or_true]
theorem sub_zero(x:Nat):sub 0 x:=sub_iff.2 fun j hj=>by simp at hj
section
variable {m:Mth} {L M:List (Option Nat)} {pc:Nat}
def lvAt(L:List (Option Nat))(j:Int):Nat:=(L.getD j.toNat none).getD 0
def behF(m:Mth)(L:List (Option Nat))(pc:Nat):Nat:=(nextF m pc).foldl (fun a j=>a|||lvAt L j) 0
def stoF(n:Nat)(x:Ins)(b:Nat):Nat:=if x.op=4 then(if bhas n b x.a=true then bdel b x.a else b)else if x.op=3 then badd n b x.a else b
def ahdF(m:Mth)(L:List (Option Nat))(pc:Nat):Nat:=stoF (nloc m) (m.code.getD pc default) (behF m L pc)
structure LvShape(m:Mth)(seen:List Bool)(L:List (Option Nat)):Prop where
 len:L.length=m.code.length
 seen:∀pc,pc<m.code.length→(L.getD pc none).isSome=seen.getD pc false
 lt:∀pc,lvAt L (pc:Nat)<2^nloc m
def LvClosed(m:Mth)(seen:List Bool)(L:List (Option Nat)):Prop:=∀pc,pc<m.code.length→seen.getD pc false=true→sub (ahdF m L pc) (lvAt L pc)
def LvLe(L M:List (Option Nat)):Prop:=∀pc:Nat,sub (lvAt L pc) (lvAt M pc)
structure LvOk(m:Mth)(seen:List Bool)(L:List (Option Nat)):Prop where
 shape:LvShape m seen L
 closed:LvClosed m seen L
 least:∀M,LvShape m seen M→LvClosed m seen M→LvLe L M
theorem lvAt_nat(L:List (Option Nat))(j:Int):lvAt L j=lvAt L (j.toNat:Nat):=by unfold lvAt;rw[Int.toNat_natCast]
theorem LvOk.uniq{seen:List Bool}(h:LvOk m seen L)(k:LvOk m seen M):L=M:=by
 refine List.ext_getElem (by rw[h.shape.len,k.shape.len]) fun i h1 h2=>?_
 have e:=sub_anti (h.least M k.shape k.closed i) (k.least L h.shape h.closed i);have hi:i<m.code.length:=by rw[←h.shape.len];exact h1
 have s:=(h.shape.seen i hi).trans (k.shape.seen i hi).symm;unfold lvAt at e;rw[Int.toNat_natCast]at e;simp only[List.getD_eq_getElem?_getD,List.getElem?_eq_getElem h1,List.getElem?_eq_getElem h2,Option.getD_some]at e s;cases ha:L[i]<;>cases hb:M[i]<;>rw[ha,hb]at s e<;>simp at s e⊢
 exact e
theorem fold_sub(h:LvLe L M):∀(l:List Int) {a b:Nat},sub a b→sub (l.foldl (fun a j=>a|||lvAt L j) a) (l.foldl (fun a j=>a|||lvAt M j) b)
 | [],_,_,hab=>hab
 |j::l,a,b,hab=>fold_sub h l (sub_or (sub_trans hab (sub_left _ _)) (by
  have:=h j.toNat;rw[←lvAt_nat,←lvAt_nat]at this;exact sub_trans this (sub_right _ _)))
theorem bdel_bit{n x:Nat}(hx:x<2^n)(hn:n≤12)(i:Int)(j:Nat)(h:bhas n x i=true):(bdel x i).testBit j=(x.testBit j&&decide (¬j=i.toNat)):=by
 unfold bhas at h;simp only[Bool.and_eq_true,decide_eq_true_eq]at h;unfold bdel;rw[Nat.testBit_and,show 18446744073709551615-2^i.toNat=2^64-(2^i.toNat+1) by omega,Nat.testBit_two_pow_sub_succ (Nat.pow_lt_pow_right (by omega) (by omega)),Nat.testBit_two_pow];cases e:x.testBit j with
 |false=>rfl
 |true=>
  have hj:=bit_of hx e;have hj2:j<64:=by omega
  by_cases e2:j=i.toNat
  ·subst e2;simp[hj2]
  ·have e3:¬i.toNat=j:=fun h=>e2 h.symm
   simp[hj2,e2,e3]
theorem sto_sub{n:Nat}(hn:n≤12){a b:Nat}(ha:a<2^n)(hb:b<2^n)(x:Ins)(h:sub a b):sub (stoF n x a) (stoF n x b):=by
 unfold stoF
 by_cases e1:x.op=4
 ·rw[if_pos e1,if_pos e1]
  by_cases ea:bhas n a x.a=true
  ·have eb:bhas n b x.a=true:=by
    unfold bhas at*;simp only[Bool.and_eq_true]at*;exact⟨ea.1,sub_iff.1 h _ ea.2⟩
   rw[if_pos ea,if_pos eb];refine sub_iff.2 fun j hj=>?_
   rw[bdel_bit ha hn _ _ ea]at hj;rw[bdel_bit hb hn _ _ eb];simp only[Bool.and_eq_true]at*;exact⟨sub_iff.1 h _ hj.1,hj.2⟩
  ·rw[if_neg ea]
   by_cases eb:bhas n b x.a=true
   ·rw[if_pos eb];refine sub_iff.2 fun j hj=>?_
    rw[bdel_bit hb hn _ _ eb];simp only[Bool.and_eq_true,decide_eq_true_eq];refine⟨sub_iff.1 h _ hj,fun e=>ea ?_⟩;unfold bhas at*;simp only[Bool.and_eq_true]at*;exact⟨eb.1,by rw[←e];exact hj⟩
   ·rw[if_neg eb];exact h
 ·rw[if_neg e1,if_neg e1]
  by_cases e2:x.op=3
  ·rw[if_pos e2,if_pos e2];unfold badd;split
   ·exact sub_or (sub_trans h (sub_left _ _)) (sub_right _ _)
   ·exact h
  ·rw[if_neg e2,if_neg e2];exact h
theorem fold_lt{n:Nat}(h:∀pc:Nat,lvAt L pc<2^n):∀(l:List Int) {a:Nat},a<2^n→l.foldl (fun a j=>a|||lvAt L j) a<2^n
 | [],_,ha=>ha
 |j::l,a,ha=>fold_lt h l (Nat.or_lt_two_pow ha (by rw[lvAt_nat];exact h _))
theorem beh_lt(h:∀pc:Nat,lvAt L pc<2^nloc m)(pc:Nat):behF m L pc<2^nloc m:=fold_lt h _ (Nat.pow_pos (by omega))
theorem sto_lt{n b:Nat}(x:Ins)(hb:b<2^n):stoF n x b<2^n:=by
 unfold stoF;split
 ·split
  ·exact bdel_lt hb
  ·exact hb
 ·split
  ·exact badd_lt hb
  ·exact hb
theorem ahd_mono(hn:nloc m≤12)(hL:∀pc:Nat,lvAt L pc<2^nloc m)(hM:∀pc:Nat,lvAt M pc<2^nloc m)(h:LvLe L M)(pc:Nat):sub (ahdF m L pc) (ahdF m M pc):=
 sto_sub hn (beh_lt hL pc) (beh_lt hM pc) _ (fold_sub h _ (sub_refl 0))
def lvUp(L:List (Option Nat))(pc a:Nat):List (Option Nat):=L.set pc (some (lvAt L pc|||a))
structure LvOn(m:Mth)(seen:List Bool)(L:List (Option Nat)):Prop where
 shape:LvShape m seen L
 low:∀M,LvShape m seen M→LvClosed m seen M→LvLe L M
theorem up_at{pc a:Nat}(h:pc<L.length)(j:Nat):lvAt (lvUp L pc a) j=if j=pc then lvAt L pc|||a else lvAt L j:=by
 unfold lvAt lvUp;simp only[Int.toNat_natCast,List.getD_eq_getElem?_getD]
 by_cases e:j=pc
 ·subst e;rw[List.getElem?_set_self h,if_pos rfl];rfl
 ·rw[List.getElem?_set_ne (fun h=>e h.symm),if_neg e]
theorem LvOn.up{seen:List Bool}(h:LvOn m seen L)(hn:nloc m≤12){pc:Nat}(hp:pc<m.code.length)(hs:seen.getD pc false=true):LvOn m seen (lvUp L pc (ahdF m L pc)):=by
 have hl:pc<L.length:=by rw[h.shape.len];exact hp
 refine⟨⟨by simp[lvUp,h.shape.len],fun j hj=>?_,fun j=>?_⟩,fun M h1 h2 j=>?_⟩
 ·unfold lvUp;simp only[List.getD_eq_getElem?_getD]
  by_cases e:pc=j
  ·subst e;rw[List.getElem?_set_self hl];simpa using hs.symm
  ·rw[List.getElem?_set_ne e];simpa using h.shape.seen j hj
 ·rw[up_at hl];split
  ·exact Nat.or_lt_two_pow (h.shape.lt pc) (sto_lt _ (beh_lt h.shape.lt pc))
  ·exact h.shape.lt j
 ·rw[up_at hl];split
  ·rename_i e;subst e;exact sub_or (h.low M h1 h2 j) (sub_trans (ahd_mono hn h.shape.lt h1.lt (h.low M h1 h2) j) (h2 j hp hs))
  ·exact h.low M h1 h2 j
def lvMu(L:List (Option Nat)):Nat:=(L.map fun o=>4096-o.getD 0).sum
theorem mu_up{pc a:Nat}(h:pc<L.length)(hs:(L.getD pc none).isSome=true)(ha:lvAt L pc|||a≠lvAt L pc)(hlt:lvAt L pc<4096):lvMu (lvUp L pc a)<lvMu L:=by
 have hgt:lvAt L pc<lvAt L pc|||a:=Nat.lt_of_le_of_ne Nat.left_le_or (fun e=>ha e.symm)
 unfold lvUp;generalize lvAt L pc|||a=b at*
 unfold lvAt at hgt hlt;rw[Int.toNat_natCast]at hgt hlt;unfold lvMu;clear ha hs;induction L generalizing pc with
 |nil=>simp at h
 |cons o L ih=>
  cases pc with
  |zero=>
   simp only[List.set_cons_zero,List.map_cons,List.sum_cons];simp at hgt hlt;simp only[Option.getD_some];omega
  |succ pc=>
   simp only[List.set_cons_succ,List.map_cons,List.sum_cons];have:=ih (pc:=pc) (by simpa using h) (by simpa using hlt) (by simpa using hgt);omega
theorem lvUp_same{pc a:Nat}(h:pc<L.length)(hs:(L.getD pc none).isSome=true)(ha:lvAt L pc|||a=lvAt L pc):lvUp L pc a=L:=by
 unfold lvUp;rw[ha];apply List.ext_getElem?;intro i
 by_cases e:pc=i
 ·subst e;rw[List.getElem?_set_self h];unfold lvAt;rw[Int.toNat_natCast];rw[List.getD_eq_getElem?_getD]at hs⊢;rw[List.getElem?_eq_getElem h]at hs⊢;simp only[Option.getD_some]at hs⊢;obtain⟨y,hy⟩:=Option.isSome_iff_exists.1 hs;rw[hy];rfl
 ·rw[List.getElem?_set_ne e]
end
theorem sort_two(a b:Int):sortS [a,b]=cmp2 (lo2 b a) (hi2 b a):=by
 unfold cmp2 lo2 hi2;have h0:sortS [a,b]=insS [a] b:=rfl;rw[h0];unfold insS
 by_cases h:a<b
 ·have hp:posS [a] b=1:=by simp[posS,h]
  have hne:¬b=a:=by omega
  rw[hp];simp[h,hne]
 ·have hp:posS [a] b=0:=by simp[posS,h]
  rw[hp]
  by_cases e:b=a
  ·subst e;simp
  ·simp[h,e,show¬a=b from fun x=>e x.symm]
theorem sort_two_le(a b:Int):(sortS [a,b]).length≤2:=sortS_len _
theorem rnext_any(A:Option Addr)(c:Nat)(m:Mth)(pc:Int)(w:World)(hr:Rd w w.heap.size 4 A m.code.length (icells m.code))(hm:m.code.length≤9223372036854775807):
 Calls Tryz.prog 75 #[mv A c m,.int .i64 pc] w (RowPost w (nextF m pc)):=by
 have hF:nextF m pc=if inB pc m.code.length=false then[]
 else if(m.code.getD pc.toNat default).op=33 then[]
 else if(m.code.getD pc.toNat default).op=22 then[(m.code.getD pc.toNat default).a]
 else if(m.code.getD pc.toNat default).op=23 then cmp2 (lo2 (m.code.getD pc.toNat default).a (pc+1)) (hi2 (m.code.getD pc.toNat default).a (pc+1))
 else[pc+1]:=rfl
 have hP:∀l A n c w',nextF m pc=l→n≤2→Rd w' w'.heap.size 1 A n (ints l)→Below w.heap.size w w'→RowPost w (nextF m pc) (.returned (.slice A n c)) w':=fun l A n c w' e h1 h2 h3=>⟨A,n,c,h1,rfl,by rw[e];exact h2,h3⟩
 have HP:=eh hP;clear hP;generalize RowPost w (nextF m pc)=Post at*;cases hi:inB pc m.code.length with
 |false=>
  rw[hi]at hF;have HF:=eh hF;have hx:pc<0∨(m.code.length:Int)≤pc:=by
   have :¬(0≤pc∧pc<m.code.length):=fun hh=>by
    rw[show inB pc m.code.length=true by simp[inB,hh]]at hi;cases hi
   omega
  clear hF hi;rcases hx with hx|hx
  ·go_enter Tryz.func75,Tryz.ntmps75;go_wp2;exact HP.out [] _ _ _ _ HF.out (by omega) (Rd.nil _ _ _ _) ((Below.refl _ _).alloc (Nat.le_refl _) _)
  ·by_cases h0:pc<0
   ·go_enter Tryz.func75,Tryz.ntmps75;go_wp2;exact HP.out [] _ _ _ _ HF.out (by omega) (Rd.nil _ _ _ _) ((Below.refl _ _).alloc (Nat.le_refl _) _)
   ·go_enter Tryz.func75,Tryz.ntmps75;go_wp2;exact HP.out [] _ _ _ _ HF.out (by omega) (Rd.nil _ _ _ _) ((Below.refl _ _).alloc (Nat.le_refl _) _)
 |true=>
  have hx:=uJ hi;obtain⟨k,rfl⟩:∃k:Nat,pc=k:=⟨pc.toNat,by omega⟩;have hkl:k<m.code.length:=by omega
  obtain⟨b,off,rfl,hbb,x0,x1,x2,x3⟩:=ins_at hr hkl;have k0:(0:Int)≤k:=by omega
  have k1:(k:Int)<m.code.length:=by omega
  rw[if_neg (by simp[hi])]at hF;simp only[Int.toNat_natCast]at hF;generalize m.code.getD k default=x at*;obtain⟨op,xa,xb,xn⟩:=x;simp only at hF x0 x1 x2 x3;have hc:op=33∨op=22∨op=23∨(op≠33∧op≠22∧op≠23):=by omega
  rcases hc with e|e|e|⟨e1,e2,e3⟩
  ·have HF:=eh (show nextF m k=[] by rw[hF,if_pos e]);have f1:(op==33)=true:=by simp[e]
   clear hF e;go_enter Tryz.func75,Tryz.ntmps75;go_wp2;exact HP.out [] _ _ _ _ HF.out (by omega) (Rd.nil _ _ _ _) (((Below.refl _ _).alloc (Nat.le_refl _) _).alloc (by simp) _)
  ·have HF:=eh (show nextF m k=[xa] by rw[hF,if_neg (by omega),if_pos e]);have f1:(op==33)=false:=by simp;omega
   have f2:(op==22)=true:=by simp[e]
   clear hF e;go_enter Tryz.func75,Tryz.ntmps75;go_wp2;exact HP.out [xa] _ _ _ _ HF.out (by omega) (Blk.rd (xs:=ints [xa]) (Blk.newAt (by simp) _ _) rfl (by simp)) ((((Below.refl _ _).alloc (Nat.le_refl _) _).alloc (by simp) _).alloc (by simp;omega) _)
  ·have HF:=eh (show nextF m k=cmp2 (lo2 xa (k+1)) (hi2 xa (k+1)) by rw[hF,if_neg (by omega),if_neg (by omega),if_pos e]);have f1:(op==33)=false:=by simp;omega
   have f2:(op==22)=false:=by simp;omega
   have f3:(op==23)=true:=by simp[e]
   clear hF e;go_enter Tryz.func75,Tryz.ntmps75;go_wp2_with fail;have hw3:=(((Below.refl w.heap.size w).alloc (Nat.le_refl _) (.cells #[.string m.pa,.string m.lo,.string m.re,.slice (some ⟨b,off,none⟩) m.code.length c] 27)).alloc (by simp) (.cells #[.int .i64 op,.int .i64 xa,.int .i64 xb,.int .i64 xn] 24)).alloc (by simp;omega) (.cells #[.int .i64 ((k:Int)+1),.int .i64 xa] 3);have hbk:=Blk.newAt (w:=(w.alloc (.cells #[.string m.pa,.string m.lo,.string m.re,.slice (some ⟨b,off,none⟩) m.code.length c] 27)).alloc (.cells #[.int .i64 op,.int .i64 xa,.int .i64 xb,.int .i64 xn] 24)) (g:=w.heap.size+1+1) (by simp) 3 #[.int .i64 ((k:Int)+1),.int .i64 xa];refine(sorted_any _ _ [(k:Int)+1,xa] _ (Blk.rd (xs:=ints [(k:Int)+1,xa]) hbk rfl hbk.lt) (by simp)).mono ?_;rintro e w4 ⟨A4,c4,rfl,r4,b4⟩;rw[sort_two]at r4;have hl4:=sort_two_le ((k:Int)+1) xa;have hw4:=hw3.trans (b4.mono hw3.size);go_wp2;exact HP.out _ _ _ _ _ HF.out hl4 (by rw[sort_two];exact r4) hw4
  ·have HF:=eh (show nextF m k=[(k:Int)+1] by rw[hF,if_neg e1,if_neg e2,if_neg e3]);have f1:(op==33)=false:=by simp;omega
   have f2:(op==22)=false:=by simp;omega
   have f3:(op==23)=false:=by simp;omega
   clear hF e1 e2 e3;go_enter Tryz.func75,Tryz.ntmps75;go_wp2;exact HP.out [(k:Int)+1] _ _ _ _ HF.out (by omega) (Blk.rd (xs:=ints [(k:Int)+1]) (Blk.newAt (by simp) _ _) rfl (by simp)) ((((Below.refl _ _).alloc (Nat.le_refl _) _).alloc (by simp) _).alloc (by simp;omega) _)
end Go.Proofs.YtgbgbmdiomhfiaaGreatDoor