/-
 VrPure, Shelf4, Vr1.
-/
import Derived.Shelf.Sort.Plain
import Derived.Shelf.Strings.Prefix
import Derived.Shelf.Slices.Equal
import Derived.Shelf.Slices.Empties2
import Derived.Test.YtjjmpfmhggcjiaaGreatDoorProg
import Derived.Deep.CutBlock
import Derived.Test.YtjjmpfmhggcjiaaGreatDoorJSettlePure
import Derived.Test.YtjjmpfmhggcjiaaGreatDoorJPgNext
import Derived.Test.YtjjmpfmhggcjiaaGreatDoorJPgFair
import Derived.Test.YtjjmpfmhggcjiaaGreatDoorJConcat
set_option linter.unusedSimpArgs false
set_option linter.unusedVariables false
namespace Go.Proofs.YtjjmpfmhggcjiaaGreatDoor
open Go.RowKit Go.Maps
/-- The stack may be so behind an instruction. -/
def chkF (op : Int) (b : ByteArray) : Option ByteArray := if 12 < b.size ∨ op = 33 ∧ b.toList ≠ [] then none else some b
/-- The stack behind an instruction. -/
def aftF (p : Prg) (mine : Mth) (x : Ins) (s : ByteArray) : Option ByteArray :=
 if x.op = 6 then if s.size < 1 then none else some (s.extract 0 (s.size - 1))
 else if x.op = 5 then if s.size < 1 then none else chkF x.op (s ++ s.extract (s.size - 1) s.size)
 else if x.op = 7 then if s.size < 2 then none else chkF x.op (s.extract 0 (s.size - 2) ++ s.extract (s.size - 1) s.size ++ s.extract (s.size - 2) (s.size - 1))
 else if s.size < (effF p mine x).1.size then none
 else if s.extract (s.size - (effF p mine x).1.size) s.size ≠ (effF p mine x).1 then none
 else chkF x.op (s.extract 0 (s.size - (effF p mine x).1.size) ++ (effF p mine x).2.1)
theorem chkF_le {op : Int} {b c : ByteArray} (h : chkF op b = some c) : c.size ≤ 12 := by
 unfold chkF at h
 split at h
 · cases h
 · cases h
   omega
theorem aftF_le {p : Prg} {mine : Mth} {x : Ins} {s b : ByteArray} (hs : s.size ≤ 12) (h : aftF p mine x s = some b) : b.size ≤ 12 := by
 unfold aftF at h
 generalize effF p mine x = f at h
 by_cases h6 : x.op = 6
 · rw [if_pos h6] at h
   by_cases h1 : s.size < 1
   · rw [if_pos h1] at h; cases h
   · rw [if_neg h1] at h
     have e := Option.some.inj h
     rw [← e, ByteArray.size_extract]
     omega
 · rw [if_neg h6] at h
   by_cases h5 : x.op = 5
   · rw [if_pos h5] at h
     by_cases h1 : s.size < 1
     · rw [if_pos h1] at h; cases h
     · rw [if_neg h1] at h; exact chkF_le h
   · rw [if_neg h5] at h
     by_cases h7 : x.op = 7
     · rw [if_pos h7] at h
       by_cases h1 : s.size < 2
       · rw [if_pos h1] at h; cases h
       · rw [if_neg h1] at h; exact chkF_le h
     · rw [if_neg h7] at h
       by_cases h1 : s.size < f.1.size
       · rw [if_pos h1] at h; cases h
       · rw [if_neg h1] at h
         by_cases h2 : s.extract (s.size - f.1.size) s.size ≠ f.1
         · rw [if_pos h2] at h; cases h
         · rw [if_neg h2] at h; exact chkF_le h
/-- Where it goes on the stack is noted, or held against what was there. -/
def flowTo (n : Nat) (b : ByteArray) : List Int → List ByteArray → List Bool → Option (List ByteArray × List Bool)
 | [], st, se => some (st, se)
 | k :: r, st, se =>
   if (n : Int) ≤ k then none
   else if se.getD k.toNat false = false then flowTo n b r (st.set k.toNat b) (se.set k.toNat true)
   else if st.getD k.toNat ⟨#[]⟩ = b then flowTo n b r st se else none
structure Vs where
 stacks : List ByteArray
 seen : List Bool
 done : List Bool
 most : Nat
/-- The first one that is seen and not done. -/
def pickF (s : Vs) (n : Nat) : Nat := ((List.range n).find? fun pc => s.seen.getD pc false && !s.done.getD pc false).getD n
/-- One is looked at. -/
def lookF (p : Prg) (m : Mth) (s : Vs) (pc : Nat) : Option Vs :=
 match aftF p m (m.code.getD pc default) (s.stacks.getD pc ⟨#[]⟩) with
 | none => none
 | some b => match flowTo m.code.length b (nextF m pc) s.stacks s.seen with
   | none => none
   | some (st, se) => some ⟨st, se, s.done.set pc true, max (max s.most (s.stacks.getD pc ⟨#[]⟩).size) b.size⟩
def vrun (p : Prg) (m : Mth) : Nat → Vs → Option Vs
 | 0, _ => none
 | f + 1, s => if pickF s m.code.length = m.code.length then some s else
   match lookF p m s (pickF s m.code.length) with
   | none => none
   | some s' => vrun p m f s'
def vstart (m : Mth) : Vs := ⟨List.replicate m.code.length ⟨#[]⟩, (List.replicate m.code.length false).set 0 true, List.replicate m.code.length false, 0⟩
def verM (p : Prg) (m : Mth) : Option Vs := vrun p m (m.code.length + 1) (vstart m)
section
variable {p : Prg} {m : Mth} {s s' : Vs} {n : Nat}
theorem find_range (f : Nat → Bool) (n : Nat) : (((List.range n).find? f).getD n = n ∧ ∀ j, j < n → f j = false) ∨ (((List.range n).find? f).getD n < n ∧ f (((List.range n).find? f).getD n) = true ∧ ∀ j, j < ((List.range n).find? f).getD n → f j = false) := by
 cases h : (List.range n).find? f with
 | none =>
   refine .inl ⟨rfl, fun j hj => ?_⟩
   rw [List.find?_eq_none] at h
   simpa using h j (List.mem_range.2 hj)
 | some k =>
   rw [List.find?_range_eq_some] at h
   exact .inr ⟨by simpa using h.2.1, h.1, fun j hj => by simpa using h.2.2 j hj⟩
theorem pick_at {pc : Nat} (hpc : pc ≤ n) (hb : ∀ j, j < pc → (s.seen.getD j false && !s.done.getD j false) = false) (hx : pc < n → (s.seen.getD pc false && !s.done.getD pc false) = true) : pickF s n = pc := by
 unfold pickF
 rcases find_range (fun pc => s.seen.getD pc false && !s.done.getD pc false) n with ⟨e, h⟩ | ⟨h1, h2, h3⟩
 · rw [e]
   by_cases hl : pc < n
   · have h1 := h pc hl
     have h2 := hx hl
     rw [h1] at h2
     cases h2
   · omega
 · generalize ((List.range n).find? fun pc => s.seen.getD pc false && !s.done.getD pc false).getD n = q at *
   by_cases h4 : q < pc
   · have := hb q h4
     rw [h2] at this
     cases this
   · by_cases h5 : pc < q
     · have h6 := h3 pc h5
       have h7 := hx (by omega)
       rw [h6] at h7
       cases h7
     · omega
/-- What holds of a method that is looked through. -/
structure VInv (p : Prg) (m : Mth) (s : Vs) : Prop where
 l1 : s.stacks.length = m.code.length
 l2 : s.seen.length = m.code.length
 l3 : s.done.length = m.code.length
 le : ∀ k, (s.stacks.getD k ⟨#[]⟩).size ≤ 12
 zero : s.seen.getD 0 false = true ∧ s.stacks.getD 0 ⟨#[]⟩ = ⟨#[]⟩
 don : ∀ k, s.done.getD k false = true → s.seen.getD k false = true ∧ ∃ b, aftF p m (m.code.getD k default) (s.stacks.getD k ⟨#[]⟩) = some b ∧
  ∀ j, j ∈ nextF m k → 0 ≤ j ∧ j < m.code.length ∧ s.seen.getD j.toNat false = true ∧ s.stacks.getD j.toNat ⟨#[]⟩ = b
/-- All that is seen is done. -/
structure VOk (p : Prg) (m : Mth) (s : Vs) : Prop extends VInv p m s where
 all : ∀ k, s.seen.getD k false = true → s.done.getD k false = true
theorem getD_set {α : Type} (l : List α) (i j : Nat) (v d : α) : (l.set i v).getD j d = if j = i ∧ i < l.length then v else l.getD j d := by
 by_cases e : j = i
 · subst e
   by_cases hl : j < l.length
   · simp [hl]
   · simp [hl]
 · have e' : ¬ i = j := fun h => e h.symm
   simp [e, e']
theorem flowTo_ok {b : ByteArray} : ∀ {l : List Int} {st st' : List ByteArray} {se se' : List Bool}, (∀ j ∈ l, 0 ≤ j) → st.length = n → se.length = n → flowTo n b l st se = some (st', se') →
 st'.length = n ∧ se'.length = n ∧ (∀ k, se.getD k false = true → se'.getD k false = true ∧ st'.getD k ⟨#[]⟩ = st.getD k ⟨#[]⟩) ∧ (∀ j ∈ l, j < n ∧ se'.getD j.toNat false = true ∧ st'.getD j.toNat ⟨#[]⟩ = b) ∧
  (∀ k, st'.getD k ⟨#[]⟩ = st.getD k ⟨#[]⟩ ∨ st'.getD k ⟨#[]⟩ = b)
 | [], st, st', se, se', _, h1, h2, h => by
   simp only [flowTo, Option.some.injEq, Prod.mk.injEq] at h
   obtain ⟨rfl, rfl⟩ := h
   exact ⟨h1, h2, fun k hk => ⟨hk, rfl⟩, fun j hj => (by cases hj), fun k => .inl rfl⟩
 | j :: r, st, st', se, se', hn, h1, h2, h => by
   have hj0 := hn j (by simp)
   have hr : ∀ i ∈ r, 0 ≤ i := fun i hi => hn i (by simp [hi])
   unfold flowTo at h
   by_cases hge : (n : Int) ≤ j
   · rw [if_pos hge] at h; cases h
   · rw [if_neg hge] at h
     have hjn : j.toNat < n := by omega
     cases hs : se.getD j.toNat false with
     | false =>
       rw [hs, if_pos rfl] at h
       obtain ⟨a1, a2, a3, a4, a5⟩ := flowTo_ok hr (by simpa using h1) (by simpa using h2) h
       have hset : (st.set j.toNat b).getD j.toNat ⟨#[]⟩ = b := by rw [getD_set, if_pos ⟨rfl, by omega⟩]
       have hse : (se.set j.toNat true).getD j.toNat false = true := by rw [getD_set, if_pos ⟨rfl, by omega⟩]
       refine ⟨a1, a2, fun k hk => ?_, fun i hi => ?_, fun k => ?_⟩
       · have hne : k ≠ j.toNat := fun e => by subst e; rw [hs] at hk; cases hk
         obtain ⟨b1, b2⟩ := a3 k (by rw [getD_set, if_neg (by simp [hne])]; exact hk)
         exact ⟨b1, by rw [b2, getD_set, if_neg (by simp [hne])]⟩
       · rcases List.mem_cons.1 hi with rfl | hi
         · obtain ⟨b1, b2⟩ := a3 i.toNat hse
           exact ⟨by omega, b1, by rw [b2, hset]⟩
         · exact a4 i hi
       · rcases a5 k with h | h
         · rw [h, getD_set]
           split
           · exact .inr rfl
           · exact .inl rfl
         · exact .inr h
     | true =>
       rw [hs, if_neg (by simp)] at h
       by_cases hb : st.getD j.toNat ⟨#[]⟩ = b
       · rw [if_pos hb] at h
         obtain ⟨a1, a2, a3, a4, a5⟩ := flowTo_ok hr h1 h2 h
         refine ⟨a1, a2, a3, fun i hi => ?_, a5⟩
         rcases List.mem_cons.1 hi with rfl | hi
         · obtain ⟨b1, b2⟩ := a3 i.toNat hs
           exact ⟨by omega, b1, by rw [b2, hb]⟩
         · exact a4 i hi
       · rw [if_neg hb] at h; cases h
theorem VInv.start (hc : 0 < m.code.length) : VInv p m (vstart m) := by
 have hz : ∀ k, (List.replicate m.code.length (⟨#[]⟩ : ByteArray)).getD k ⟨#[]⟩ = ⟨#[]⟩ := fun k => by
  simp only [List.getD_eq_getElem?_getD, List.getElem?_replicate]; split <;> rfl
 have hf : ∀ k, (List.replicate m.code.length false).getD k false = false := fun k => by
  simp only [List.getD_eq_getElem?_getD, List.getElem?_replicate]; split <;> rfl
 refine ⟨by simp [vstart], by simp [vstart], by simp [vstart], fun k => ?_, ⟨?_, ?_⟩, fun k hk => ?_⟩
 · simp only [vstart, hz]; decide
 · simp only [vstart]; rw [getD_set, if_pos ⟨rfl, by simpa using hc⟩]
 · simp only [vstart, hz]
 · simp only [vstart, hf] at hk; cases hk
theorem VInv.look (I : VInv p m s) (hn : ∀ k, k < m.code.length → ∀ j ∈ nextF m k, 0 ≤ j) {pc : Nat} (hpc : pc < m.code.length) (hs : s.seen.getD pc false = true) (h : lookF p m s pc = some s') : VInv p m s' := by
 unfold lookF at h
 cases ha : aftF p m (m.code.getD pc default) (s.stacks.getD pc ⟨#[]⟩) with
 | none => rw [ha] at h; cases h
 | some b =>
   rw [ha] at h
   simp only at h
   cases hf : flowTo m.code.length b (nextF m pc) s.stacks s.seen with
   | none => rw [hf] at h; cases h
   | some q =>
     obtain ⟨st, se⟩ := q
     rw [hf] at h
     simp only [Option.some.injEq] at h
     subst h
     obtain ⟨a1, a2, a3, a4, a5⟩ := flowTo_ok (hn pc hpc) I.l1 I.l2 hf
     have hb := aftF_le (I.le pc) ha
     refine ⟨a1, a2, by simp [I.l3], fun k => ?_, ⟨(a3 0 I.zero.1).1, (a3 0 I.zero.1).2.trans I.zero.2⟩, fun k hk => ?_⟩
     · rcases a5 k with h | h
       · simp only [h]; exact I.le k
       · simp only [h]; exact hb
     · simp only at hk ⊢
       by_cases e : k = pc
       · subst e
         refine ⟨(a3 k hs).1, b, by rw [(a3 k hs).2]; exact ha, fun j hj => ?_⟩
         obtain ⟨b1, b2, b3⟩ := a4 j hj
         exact ⟨hn k hpc j hj, b1, b2, b3⟩
       · rw [getD_set, if_neg (by simp [e])] at hk
         obtain ⟨c1, b', c2, c3⟩ := I.don k hk
         refine ⟨(a3 k c1).1, b', by rw [(a3 k c1).2]; exact c2, fun j hj => ?_⟩
         obtain ⟨d1, d2, d3, d4⟩ := c3 j hj
         exact ⟨d1, d2, (a3 _ d3).1, by rw [(a3 _ d3).2]; exact d4⟩
theorem vrun_ok (hn : ∀ k, k < m.code.length → ∀ j ∈ nextF m k, 0 ≤ j) : ∀ (f : Nat) {s : Vs}, VInv p m s → vrun p m f s = some s' → VOk p m s'
 | 0, s, _, h => by cases h
 | f + 1, s, I, h => by
   unfold vrun at h
   rcases find_range (fun pc => s.seen.getD pc false && !s.done.getD pc false) m.code.length with ⟨e, h1⟩ | ⟨h1, h2, _⟩
   · have e' : pickF s m.code.length = m.code.length := e
     rw [if_pos e'] at h
     cases h
     refine ⟨I, fun k hk => ?_⟩
     by_cases hl : k < m.code.length
     · have := h1 k hl
       simp only [hk, Bool.true_and] at this
       simpa using this
     · rw [List.getD_eq_getElem?_getD, List.getElem?_eq_none (by rw [I.l2]; omega)] at hk
       cases hk
   · have h1' : pickF s m.code.length < m.code.length := h1
     have h2' : (s.seen.getD (pickF s m.code.length) false && !s.done.getD (pickF s m.code.length) false) = true := h2
     rw [if_neg (by omega)] at h
     simp only [Bool.and_eq_true] at h2'
     cases hl : lookF p m s (pickF s m.code.length) with
     | none => rw [hl] at h; cases h
     | some s1 =>
       rw [hl] at h
       exact vrun_ok hn f (I.look hn h1' h2'.1 hl) h
theorem verM_ok (hn : ∀ k, k < m.code.length → ∀ j ∈ nextF m k, 0 ≤ j) (hc : 0 < m.code.length) (h : verM p m = some s) : VOk p m s := vrun_ok hn _ (VInv.start hc) h
/-- A program that may be goes on where there is something. -/
theorem next_nonneg {cl : List ByteArray} {nm locals : Nat} {mm : Mth} (hins : ∀ k, k < mm.code.length → insBad cl nm locals mm.code.length (mm.code.getD k default) = 0) (k : Nat) (hk : k < mm.code.length) : ∀ i ∈ nextF mm k, 0 ≤ i := by
 intro i hi
 have hin : inB (k : Int) mm.code.length = true := by
  unfold inB
  simp
  omega
 have hb := hins k hk
 unfold nextF at hi
 rw [if_neg (by rw [hin]; simp)] at hi
 simp only [Int.toNat_natCast] at hi
 generalize mm.code.getD k default = x at *
 generalize mm.code.length = n at *
 have hjump : x.op = 22 ∨ x.op = 23 → 0 ≤ x.a := fun ho => by
  unfold insBad at hb
  split at hb
  · cases hb
  · split at hb
    · cases hb
    · rename_i _ h2
      have hb2 : inB x.a n = true := by
       cases e : inB x.a n with
       | true => rfl
       | false => exact absurd ⟨ho, e⟩ h2
      exact (in_true hb2).1
 by_cases h33 : x.op = 33
 · rw [if_pos h33] at hi; cases hi
 · rw [if_neg h33] at hi
   by_cases h22 : x.op = 22
   · rw [if_pos h22] at hi
     have e : i = x.a := by simpa using hi
     rw [e]
     exact hjump (.inl h22)
   · rw [if_neg h22] at hi
     by_cases h23 : x.op = 23
     · rw [if_pos h23] at hi
       have h0 := hjump (.inr h23)
       unfold cmp2 at hi
       have h1 : 0 ≤ lo2 x.a ((k : Int) + 1) := by unfold lo2; split <;> omega
       have h2 : 0 ≤ hi2 x.a ((k : Int) + 1) := by unfold hi2; split <;> omega
       split at hi
       · have e : i = lo2 x.a ((k : Int) + 1) := by simpa using hi
         rw [e]; exact h1
       · rcases List.mem_cons.1 hi with e | e
         · rw [e]; exact h1
         · have e : i = hi2 x.a ((k : Int) + 1) := by simpa using e
           rw [e]; exact h2
     · rw [if_neg h23] at hi
       have e : i = (k : Int) + 1 := by simpa using hi
       omega
theorem Fair.next {p : Prg} (h : Fair p) {j : Nat} (hj : j < p.methods.length) (k : Nat) (hk : k < (p.methods.getD j default).code.length) : ∀ i ∈ nextF (p.methods.getD j default) k, 0 ≤ i := next_nonneg (h.ins j hj) k hk
end
end Go.Proofs.YtjjmpfmhggcjiaaGreatDoor
namespace Go.Proofs.YtjjmpfmhggcjiaaGreatDoor
open Go.Shelf
def lays189_ren : Go.Shelf.Ren := ⟨fun | 189 => 121 | 125 => 169 | 257 => 168 | 128 => 203 | 129 => 186 | 294 => 194 | 295 => 195 | 296 => 196 | 297 => 197 | 298 => 198 | 299 => 199 | 216 => 200 | 300 => 201 | 301 => 202 | 328 => 221 | 329 => 222 | 330 => 223 | 331 => 224 | 332 => 225 | 215 => 226 | 343 => 238 | n => n, fun | 28 => 47 | 3 => 3 | 46 => 248 | 0 => 0 | 51 => 207 | 53 => 230 | 4 => 4 | 183 => 274 | 182 => 273 | 131 => 168 | 5 => 5 | 9 => 9 | 218 => 294 | 222 => 298 | 228 => 320 | 229 => 321 | n => n, fun | n => n⟩
theorem lays189 : Go.Proofs.Lays.n189 Tryz.prog lays189_ren := {
 mixed := by kernel_rfl
 f125 := Tryz.func169.trans (congrArg some (by kernel_rfl))
 f128 := Tryz.func203.trans (congrArg some (by kernel_rfl))
 f129 := Tryz.func186.trans (congrArg some (by kernel_rfl))
 f189 := Tryz.func121.trans (congrArg some (by kernel_rfl))
 f215 := Tryz.func226.trans (congrArg some (by kernel_rfl))
 f216 := Tryz.func200.trans (congrArg some (by kernel_rfl))
 f257 := Tryz.func168.trans (congrArg some (by kernel_rfl))
 f294 := Tryz.func194.trans (congrArg some (by kernel_rfl))
 f295 := Tryz.func195.trans (congrArg some (by kernel_rfl))
 f296 := Tryz.func196.trans (congrArg some (by kernel_rfl))
 f297 := Tryz.func197.trans (congrArg some (by kernel_rfl))
 f298 := Tryz.func198.trans (congrArg some (by kernel_rfl))
 f299 := Tryz.func199.trans (congrArg some (by kernel_rfl))
 f300 := Tryz.func201.trans (congrArg some (by kernel_rfl))
 f301 := Tryz.func202.trans (congrArg some (by kernel_rfl))
 f328 := Tryz.func221.trans (congrArg some (by kernel_rfl))
 f329 := Tryz.func222.trans (congrArg some (by kernel_rfl))
 f330 := Tryz.func223.trans (congrArg some (by kernel_rfl))
 f331 := Tryz.func224.trans (congrArg some (by kernel_rfl))
 f332 := Tryz.func225.trans (congrArg some (by kernel_rfl))
 f343 := Tryz.func238.trans (congrArg some (by kernel_rfl))
 t0 := Tryz.underlying0
 a0 := Tryz.isAgg0
 z0 := Tryz.sizeOf0
 v0 := Tryz.zeroValue0
 t3 := Tryz.underlying3
 a3 := Tryz.isAgg3
 z3 := Tryz.sizeOf3
 v3 := Tryz.zeroValue3
 t4 := Tryz.underlying4
 a4 := Tryz.isAgg4
 z4 := Tryz.sizeOf4
 v4 := Tryz.zeroValue4
 t5 := Tryz.underlying5
 a5 := Tryz.isAgg5
 z5 := Tryz.sizeOf5
 v5 := Tryz.zeroValue5
 t9 := Tryz.underlying9
 a9 := Tryz.isAgg9
 z9 := Tryz.sizeOf9
 v9 := Tryz.zeroValue9
 t28 := Tryz.underlying47
 a28 := Tryz.isAgg47
 z28 := Tryz.sizeOf47
 v28 := Tryz.zeroValue47
 t46 := Tryz.underlying248
 a46 := Tryz.isAgg248
 z46 := Tryz.sizeOf248
 v46 := Tryz.zeroValue248
 t51 := Tryz.underlying207
 a51 := Tryz.isAgg207
 z51 := Tryz.sizeOf207
 v51 := Tryz.zeroValue207
 t53 := Tryz.underlying230
 a53 := Tryz.isAgg230
 z53 := Tryz.sizeOf230
 v53 := Tryz.zeroValue230
 t131 := Tryz.underlying168
 a131 := Tryz.isAgg168
 z131 := Tryz.sizeOf168
 v131 := Tryz.zeroValue168
 t182 := Tryz.underlying273
 a182 := Tryz.isAgg273
 z182 := Tryz.sizeOf273
 v182 := Tryz.zeroValue273
 t183 := Tryz.underlying274
 a183 := Tryz.isAgg274
 z183 := Tryz.sizeOf274
 v183 := Tryz.zeroValue274
 t218 := Tryz.underlying294
 a218 := Tryz.isAgg294
 z218 := Tryz.sizeOf294
 v218 := Tryz.zeroValue294
 t222 := Tryz.underlying298
 a222 := Tryz.isAgg298
 z222 := Tryz.sizeOf298
 v222 := Tryz.zeroValue298
 t228 := Tryz.underlying320
 a228 := Tryz.isAgg320
 z228 := Tryz.sizeOf320
 v228 := Tryz.zeroValue320
 t229 := Tryz.underlying321
 a229 := Tryz.isAgg321
 z229 := Tryz.sizeOf321
 v229 := Tryz.zeroValue321 }
def lays100_ren : Go.Shelf.Ren := ⟨fun | 100 => 120 | 207 => 167 | n => n, fun | 9 => 9 | 4 => 4 | 3 => 3 | n => n, fun | n => n⟩
theorem lays100 : Go.Proofs.Lays.n100 Tryz.prog lays100_ren := {
 mixed := by kernel_rfl
 f100 := Tryz.func120.trans (congrArg some (by kernel_rfl))
 f207 := Tryz.func167.trans (congrArg some (by kernel_rfl))
 t3 := Tryz.underlying3
 a3 := Tryz.isAgg3
 z3 := Tryz.sizeOf3
 v3 := Tryz.zeroValue3
 t4 := Tryz.underlying4
 a4 := Tryz.isAgg4
 z4 := Tryz.sizeOf4
 v4 := Tryz.zeroValue4
 t9 := Tryz.underlying9
 a9 := Tryz.isAgg9
 z9 := Tryz.sizeOf9
 v9 := Tryz.zeroValue9 }
def lays111_ren : Go.Shelf.Ren := ⟨fun | 111 => 91 | n => n, fun | 28 => 47 | 3 => 3 | 4 => 4 | 0 => 0 | n => n, fun | n => n⟩
theorem lays111 : Go.Proofs.Lays.n111 Tryz.prog lays111_ren := {
 mixed := by kernel_rfl
 f111 := Tryz.func91.trans (congrArg some (by kernel_rfl))
 t0 := Tryz.underlying0
 a0 := Tryz.isAgg0
 z0 := Tryz.sizeOf0
 v0 := Tryz.zeroValue0
 t3 := Tryz.underlying3
 a3 := Tryz.isAgg3
 z3 := Tryz.sizeOf3
 v3 := Tryz.zeroValue3
 t4 := Tryz.underlying4
 a4 := Tryz.isAgg4
 z4 := Tryz.sizeOf4
 v4 := Tryz.zeroValue4
 t28 := Tryz.underlying47
 a28 := Tryz.isAgg47
 z28 := Tryz.sizeOf47
 v28 := Tryz.zeroValue47 }
end Go.Proofs.YtjjmpfmhggcjiaaGreatDoor
namespace Go.Proofs.YtjjmpfmhggcjiaaGreatDoor
open Go.RowKit Go.Maps
theorem eff_is {p : Prg} {mine : Mth} {x : Ins} (h1 : 1 ≤ x.op) (h2 : x.op ≤ 35) (h5 : x.op ≠ 5) (h6 : x.op ≠ 6) (h7 : x.op ≠ 7) : (effF p mine x).2.2 = true := by
 unfold effF
 iterate 17 (refine iteInduction (motive := fun f : Eff => f.2.2 = true) (fun _ => rfl) (fun _ => ?_))
 exfalso
 omega
theorem eff_no {p : Prg} {mine : Mth} {x : Ins} (h : x.op = 5 ∨ x.op = 6 ∨ x.op = 7) : effF p mine x = (sE, sE, false) := by
 unfold effF
 repeat rw [if_neg (by omega)]
theorem chk_some {op : Int} {b c : ByteArray} (h : chkF op b = some c) : b = c ∧ b.size ≤ 12 ∧ ¬ (op = 33 ∧ b.toList ≠ []) := by
 unfold chkF at h
 split at h
 · cases h
 · rename_i hn
   cases h
   exact ⟨rfl, by omega, fun h => hn (.inr h)⟩
theorem ext_list (s : ByteArray) (i j : Nat) : (s.extract i j).data.toList = (s.data.toList.take j).drop i := by
 rw [ByteArray.data_extract, Array.toList_extract, List.extract_eq_take_drop, List.drop_take]
theorem ba_len (s : ByteArray) : s.data.toList.length = s.size := Array.length_toList
theorem ba_all (s : ByteArray) : s.data.toList.take s.size = s.data.toList := List.take_of_length_le (by rw [ba_len]; exact Nat.le_refl _)
theorem ba_ext {a b : ByteArray} (h : a.data.toList = b.data.toList) : a = b := by
 apply ByteArray.ext
 apply Array.ext'
 exact h
theorem app_list (a b : ByteArray) : (a ++ b).data.toList = a.data.toList ++ b.data.toList := by
 rw [ByteArray.data_append, Array.toList_append]
theorem suffix_of {s q : ByteArray} (h : s.extract (s.size - q.size) s.size = q) : Lib.hasSuffix s.data.toList q.data.toList = true := by
 unfold Lib.hasSuffix
 rw [List.isSuffixOf_iff_suffix]
 refine ⟨s.data.toList.take (s.size - q.size), ?_⟩
 have e : q.data.toList = s.data.toList.drop (s.size - q.size) := by
  have e1 := congrArg (fun z => z.data.toList) h
  rw [← e1]
  show (s.extract (s.size - q.size) s.size).data.toList = _
  rw [ext_list, ba_all]
 rw [e, List.take_append_drop]
theorem ext_app (s : ByteArray) (i : Nat) : s.extract 0 i ++ s.extract i s.size = s := by
 apply ba_ext
 rw [app_list, ext_list, ext_list, ba_all, List.drop_zero, List.take_append_drop]
set_option maxRecDepth 100000 in
set_option maxHeartbeats 8000000 in
theorem step_any (Ac Am : Option Addr) (cc cm : Nat) (p : Prg) (x : Ins) (m : Int) (s b : ByteArray) (w : World) (hr : RdP w w.heap.size Ac Am p) (hp : POk p) (hk : (methodF p m).pa.size + (methodF p m).lo.size ≤ 1000) (h1 : 1 ≤ x.op) (h2 : x.op ≤ 35) (hs : s.size ≤ 12)
 (ha : aftF p (methodF p m) x s = some b) :
 Calls Tryz.prog 70 #[pv Ac cc Am cm p, .int .i64 m, iv x, .string s] w fun e w' => e = .returned (.tuple #[.string b, .nilIface]) ∧ Below w.heap.size w w' := by
 have hw2 := ((Below.refl w.heap.size w).alloc (Nat.le_refl _) (.cells #[.slice Ac p.classes.length cc, .slice Am p.methods.length cm] 25)).alloc (by simp) (.cells #[.int .i64 x.op, .int .i64 x.a, .int .i64 x.b, .int .i64 x.n] 118)
 have he := fun W (hW : Below w.heap.size w W) => effect_any Ac Am cc cm p x m W ((hr.below hW (Nat.le_refl _)).more hW.size) hp hk
 have bx := Blk.newAt (w := w.alloc (.cells #[.slice Ac p.classes.length cc, .slice Am p.methods.length cm] 25)) (g := w.heap.size + 1) (by simp) 118 #[.int .i64 x.op, .int .i64 x.a, .int .i64 x.b, .int .i64 x.n]
 unfold aftF at ha
 by_cases h6 : x.op = 6
 · rw [if_pos h6] at ha
   rw [eff_no (.inr (.inl h6))] at he
   by_cases g1 : s.size < 1
   · rw [if_pos g1] at ha; cases ha
   · rw [if_neg g1] at ha
     have hb0 := Option.some.inj ha
     have HE := Lib.hid he
     have e5 : (x.op == 5) = false := by simp; omega
     have e7 : (x.op == 7) = false := by simp; omega
     have hret : ¬ (x.op = 33 ∧ b.toList ≠ []) := by omega
     have k1 : ¬ (s.size : Int) < 1 := by omega
     have hqz : (s.extract (s.size - 1) s.size).size = 1 := by rw [ByteArray.size_extract]; omega
     have Hb : Hid (s.extract 0 (s.size - (s.extract (s.size - 1) s.size).size) ++ sE = b) := Lib.hid (by rw [hqz, ← hb0]; exact ByteArray.append_empty)
     have hb12 : b.size ≤ 12 := by rw [← hb0, ByteArray.size_extract]; omega
     have Hsx := Lib.hid (suffix_of (s := s) (q := s.extract (s.size - 1) s.size) (by rw [hqz]))
     clear he ha hr hp hk h6 hb0
     go_enter Tryz.func70, Tryz.ntmps70
     go_wp2_with fail
     refine (HE.out _ hw2).mono ?_
     rintro e w3 ⟨rfl, hb3⟩
     have hw3 := hw2.trans (hb3.mono hw2.size)
     have bx3 := bx.below hb3 bx.lt
     have y0 := bx3.at0
     clear bx hw2 hb3
     go_upto_region 10 with (fail)
     generalize s.extract (s.size - 1) s.size = q at *
     have hq1 : q.size ≤ 1 := by omega
     have hq2 : 1 ≤ q.size := by omega
     clear hqz
     generalize sE = u at *
     have hbs : (s.extract 0 (s.size - q.size)).size + u.size = b.size := by rw [← Hb.out, ByteArray.size_append]
     have hpre : (s.extract 0 (s.size - q.size)).size = s.size - q.size := by rw [ByteArray.size_extract]; omega
     have o1 : ¬ 9223372036854775807 < (s.extract 0 (s.size - q.size)).size + u.size := by omega
     have o2 : ¬ 9223372036854775807 < s.size - q.size + u.size := by omega
     have o3 : s.size - q.size + u.size ≤ 9223372036854775807 := by omega
     have k0 : ¬ (s.size : Int) < q.size := by omega
     have k2 : ¬ (12 : Int) < b.size := by omega
     have k3 : ((s.size : Int) - q.size) = ((s.size - q.size : Nat) : Int) := by omega
     clear hbs hpre
     have Hsf := Lib.hid (fun W => Any.strings_HasSuffix lays100 s q W (by omega))
     go_wp2_with fail
     refine (Hsf.out _).mono ?_
     rintro e w4 ⟨rfl, rfl⟩
     rw [Hsx.out]
     go_upto_region 20 with (fail)
     rw [Hb.out]
     by_cases h33 : x.op = 33
     · have e33 : (x.op == 33) = true := by simpa using h33
       have hbe : b.toList = [] := by
        by_cases h : b.toList = []
        · exact h
        · exact absurd ⟨h33, h⟩ hret
       clear hret h33
       go_wp2
       go_ret2
       exact ⟨rfl, hw3⟩
     · have e33 : (x.op == 33) = false := by simpa using h33
       clear hret h33
       go_wp2
       go_ret2
       exact ⟨rfl, hw3⟩
 · rw [if_neg h6] at ha
   by_cases h5 : x.op = 5
   · rw [if_pos h5] at ha
     rw [eff_no (.inl h5)] at he
     by_cases g1 : s.size < 1
     · rw [if_pos g1] at ha; cases ha
     · rw [if_neg g1] at ha
       obtain ⟨hb0, hb12, hret⟩ := chk_some ha
       rw [hb0] at hb12 hret
       have HE := Lib.hid he
       have e5 : (x.op == 5) = true := by simp [h5]
       have e7 : (x.op == 7) = false := by simp; omega
       have k1 : ¬ (s.size : Int) < 1 := by omega
       have hqz : (s.extract (s.size - 1) s.size).size = 1 := by rw [ByteArray.size_extract]; omega
       have Hb : Hid (s.extract 0 (s.size - (s.extract (s.size - 1) s.size).size) ++ (s.extract (s.size - 1) s.size ++ s.extract (s.size - 1) s.size) = b) := Lib.hid (by rw [hqz, ← hb0, ← ByteArray.append_assoc, ext_app])
       have Hsx := Lib.hid (suffix_of (s := s) (q := s.extract (s.size - 1) s.size) (by rw [hqz]))
       clear he ha hr hp hk h6 h5 hb0
       go_enter Tryz.func70, Tryz.ntmps70
       go_wp2_with fail
       refine (HE.out _ hw2).mono ?_
       rintro e w3 ⟨rfl, hb3⟩
       have hw3 := hw2.trans (hb3.mono hw2.size)
       have bx3 := bx.below hb3 bx.lt
       have y0 := bx3.at0
       clear bx hw2 hb3
       go_upto_region 10 with (fail)
       generalize s.extract (s.size - 1) s.size = q at *
       have hq1 : q.size ≤ 1 := by omega
       have hq2 : 1 ≤ q.size := by omega
       clear hqz
       have o0 : ¬ 9223372036854775807 < q.size + q.size := by omega
       go_upto_region 15 with (fail)
       generalize q ++ q = u at *
       have hbs : (s.extract 0 (s.size - q.size)).size + u.size = b.size := by rw [← Hb.out, ByteArray.size_append]
       have hpre : (s.extract 0 (s.size - q.size)).size = s.size - q.size := by rw [ByteArray.size_extract]; omega
       have o1 : ¬ 9223372036854775807 < (s.extract 0 (s.size - q.size)).size + u.size := by omega
       have o2 : ¬ 9223372036854775807 < s.size - q.size + u.size := by omega
       have o3 : s.size - q.size + u.size ≤ 9223372036854775807 := by omega
       have k0 : ¬ (s.size : Int) < q.size := by omega
       have k2 : ¬ (12 : Int) < b.size := by omega
       have k3 : ((s.size : Int) - q.size) = ((s.size - q.size : Nat) : Int) := by omega
       clear hbs hpre
       have Hsf := Lib.hid (fun W => Any.strings_HasSuffix lays100 s q W (by omega))
       go_wp2_with fail
       refine (Hsf.out _).mono ?_
       rintro e w4 ⟨rfl, rfl⟩
       rw [Hsx.out]
       go_upto_region 20 with (fail)
       rw [Hb.out]
       by_cases h33 : x.op = 33
       · have e33 : (x.op == 33) = true := by simpa using h33
         have hbe : b.toList = [] := by
          by_cases h : b.toList = []
          · exact h
          · exact absurd ⟨h33, h⟩ hret
         clear hret h33
         go_wp2
         go_ret2
         exact ⟨rfl, hw3⟩
       · have e33 : (x.op == 33) = false := by simpa using h33
         clear hret h33
         go_wp2
         go_ret2
         exact ⟨rfl, hw3⟩
   · rw [if_neg h5] at ha
     by_cases h7 : x.op = 7
     · rw [if_pos h7] at ha
       rw [eff_no (.inr (.inr h7))] at he
       by_cases g1 : s.size < 2
       · rw [if_pos g1] at ha; cases ha
       · rw [if_neg g1] at ha
         obtain ⟨hb0, hb12, hret⟩ := chk_some ha
         rw [hb0] at hb12 hret
         have HE := Lib.hid he
         have e5 : (x.op == 5) = false := by simp; omega
         have e7 : (x.op == 7) = true := by simp [h7]
         have k1 : ¬ (s.size : Int) < 2 := by omega
         have hqz : (s.extract (s.size - 2) s.size).size = 2 := by rw [ByteArray.size_extract]; omega
         have hq1 : (s.extract (s.size - 2) s.size).extract 1 (s.extract (s.size - 2) s.size).size = s.extract (s.size - 1) s.size := by
          apply ba_ext
          rw [hqz, ext_list, ext_list, ext_list, ba_all]
          rw [List.take_of_length_le (by rw [List.length_drop, ba_len]; omega), List.drop_drop]
          congr 1
          omega
         have hq0 : (s.extract (s.size - 2) s.size).extract 0 1 = s.extract (s.size - 2) (s.size - 1) := by
          apply ba_ext
          rw [ext_list, ext_list, ext_list, ba_all, List.drop_zero, List.take_drop]
          congr 2
          omega
         have Hb : Hid (s.extract 0 (s.size - (s.extract (s.size - 2) s.size).size) ++ ((s.extract (s.size - 2) s.size).extract 1 (s.extract (s.size - 2) s.size).size ++ (s.extract (s.size - 2) s.size).extract 0 1) = b) := Lib.hid (by rw [hq1, hq0, hqz, ← hb0, ByteArray.append_assoc])
         have Hsx := Lib.hid (suffix_of (s := s) (q := s.extract (s.size - 2) s.size) (by rw [hqz]))
         clear he ha hr hp hk h6 h5 h7 hb0 hq1 hq0
         go_enter Tryz.func70, Tryz.ntmps70
         go_wp2_with fail
         refine (HE.out _ hw2).mono ?_
         rintro e w3 ⟨rfl, hb3⟩
         have hw3 := hw2.trans (hb3.mono hw2.size)
         have bx3 := bx.below hb3 bx.lt
         have y0 := bx3.at0
         clear bx hw2 hb3
         go_upto_region 10 with (fail)
         generalize s.extract (s.size - 2) s.size = q at *
         have hq1 : q.size ≤ 2 := by omega
         have hq2 : 2 ≤ q.size := by omega
         clear hqz
         have z1 : (1 : Int) ≤ q.size := by omega
         have z2 : 1 ≤ q.size := by omega
         have z3 : (q.extract 1 q.size).size = 1 := by rw [ByteArray.size_extract]; omega
         have z4 : (q.extract 0 1).size = 1 := by rw [ByteArray.size_extract]; omega
         have o0 : ¬ 9223372036854775807 < (q.extract 1 q.size).size + (q.extract 0 1).size := by omega
         go_wp2
         go_quiet (fail)
         rename Nat => qq
         go_upto_region 15 with (fail)
         clear z1 z2 z3 z4 o0
         generalize q.extract 1 q.size ++ q.extract 0 1 = u at *
         have hw3 := below_drewN hw3 qq
         have hbs : (s.extract 0 (s.size - q.size)).size + u.size = b.size := by rw [← Hb.out, ByteArray.size_append]
         have hpre : (s.extract 0 (s.size - q.size)).size = s.size - q.size := by rw [ByteArray.size_extract]; omega
         have o1 : ¬ 9223372036854775807 < (s.extract 0 (s.size - q.size)).size + u.size := by omega
         have o2 : ¬ 9223372036854775807 < s.size - q.size + u.size := by omega
         have o3 : s.size - q.size + u.size ≤ 9223372036854775807 := by omega
         have k0 : ¬ (s.size : Int) < q.size := by omega
         have k2 : ¬ (12 : Int) < b.size := by omega
         have k3 : ((s.size : Int) - q.size) = ((s.size - q.size : Nat) : Int) := by omega
         clear hbs hpre
         have Hsf := Lib.hid (fun W => Any.strings_HasSuffix lays100 s q W (by omega))
         go_wp2_with fail
         refine (Hsf.out _).mono ?_
         rintro e w4 ⟨rfl, rfl⟩
         rw [Hsx.out]
         go_upto_region 20 with (fail)
         rw [Hb.out]
         by_cases h33 : x.op = 33
         · have e33 : (x.op == 33) = true := by simpa using h33
           have hbe : b.toList = [] := by
            by_cases h : b.toList = []
            · exact h
            · exact absurd ⟨h33, h⟩ hret
           clear hret h33
           go_wp2
           go_ret2
           exact ⟨rfl, hw3⟩
         · have e33 : (x.op == 33) = false := by simpa using h33
           clear hret h33
           go_wp2
           go_ret2
           exact ⟨rfl, hw3⟩
     · rw [if_neg h7] at ha
       have hi := eff_is (p := p) (mine := methodF p m) h1 h2 h5 h6 h7
       obtain ⟨⟨q, u, is⟩, hq⟩ : ∃ f : Eff, f = effF p (methodF p m) x := ⟨_, rfl⟩
       rw [← hq] at ha hi he
       simp only at ha hi
       subst hi
       by_cases g1 : s.size < q.size
       · rw [if_pos g1] at ha; cases ha
       · rw [if_neg g1] at ha
         by_cases g2 : s.extract (s.size - q.size) s.size = q
         · rw [if_neg (by simpa using g2)] at ha
           obtain ⟨hb0, hb12, hret⟩ := chk_some ha
           rw [hb0] at hb12 hret
           have HE := Lib.hid (fun W hW => he W hW)
           have Hsx := Lib.hid (suffix_of g2)
           have Hb := Lib.hid hb0
           clear he hq ha g2 hr hp hk hb0 h5 h6 h7
           have hbs : (s.extract 0 (s.size - q.size)).size + u.size = b.size := by rw [← Hb.out, ByteArray.size_append]
           have hpre : (s.extract 0 (s.size - q.size)).size = s.size - q.size := by rw [ByteArray.size_extract]; omega
           have o1 : ¬ 9223372036854775807 < (s.extract 0 (s.size - q.size)).size + u.size := by omega
           have o2 : ¬ 9223372036854775807 < s.size - q.size + u.size := by omega
           have o3 : s.size - q.size + u.size ≤ 9223372036854775807 := by omega
           have k0 : ¬ (s.size : Int) < q.size := by omega
           have k2 : ¬ (12 : Int) < b.size := by omega
           have k3 : ((s.size : Int) - q.size) = ((s.size - q.size : Nat) : Int) := by omega
           clear hbs hpre
           go_enter Tryz.func70, Tryz.ntmps70
           go_wp2_with fail
           refine (HE.out _ hw2).mono ?_
           rintro e w3 ⟨rfl, hb3⟩
           have hw3 := hw2.trans (hb3.mono hw2.size)
           have bx3 := bx.below hb3 bx.lt
           have y0 := bx3.at0
           clear bx hw2 hb3
           have Hsf := Lib.hid (fun W => Any.strings_HasSuffix lays100 s q W (by omega))
           go_wp2_with fail
           refine (Hsf.out _).mono ?_
           rintro e w4 ⟨rfl, rfl⟩
           rw [Hsx.out]
           go_upto_region 20 with (fail)
           rw [Hb.out]
           by_cases h33 : x.op = 33
           · have e33 : (x.op == 33) = true := by simpa using h33
             have hbe : b.toList = [] := by
              by_cases h : b.toList = []
              · exact h
              · exact absurd ⟨h33, h⟩ hret
             clear hret h33
             go_wp2
             go_ret2
             exact ⟨rfl, hw3⟩
           · have e33 : (x.op == 33) = false := by simpa using h33
             clear hret h33
             go_wp2
             go_ret2
             exact ⟨rfl, hw3⟩
         · rw [if_pos (by simpa using g2)] at ha; cases ha
end Go.Proofs.YtjjmpfmhggcjiaaGreatDoor
