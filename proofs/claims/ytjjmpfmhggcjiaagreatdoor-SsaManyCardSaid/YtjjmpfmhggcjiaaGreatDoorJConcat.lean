/-
 Own, Vr2, Concat.
-/
import Derived.WalkSpells
import Derived.Test.YtjjmpfmhggcjiaaGreatDoorJPgEff2
import Derived.Test.YtjjmpfmhggcjiaaGreatDoorJVr1
import Derived.Test.YtjjmpfmhggcjiaaGreatDoorJShape
import Derived.Test.YtjjmpfmhggcjiaaGreatDoorJPgRNext
set_option linter.unusedSimpArgs false
set_option linter.unusedVariables false
namespace Go.Proofs.YtjjmpfmhggcjiaaGreatDoor
open Go.RowKit Go.Maps
section
variable {w w' : World} {base : Nat} {e : TypeId} {size n c : Nat} {v : Value} {A : Option Addr} {xs : List Value}
theorem own_base (h : w.ownsRow base e size v n xs) {b' : Nat} (hb : b' ≤ base) : w.ownsRow b' e size v n xs := by
 refine ⟨h.1, ?_⟩
 rcases h.2 with h0 | ⟨g, cap, cur, h1, h2, h3⟩
 · exact .inl h0
 · exact .inr ⟨g, cap, cur, h1, by omega, h3⟩
/-- s[:k] of a row of one's own. -/
theorem own_take (h : w.ownsRow base e 1 (.slice A n c) n xs) {k : Nat} (hk : k ≤ n) (h0 : A = none → k = 0) : w.ownsRow base e 1 (.slice A k c) k (xs.take k) := by
 have hl := h.1
 refine ⟨by simp; omega, ?_⟩
 rcases h.2 with ⟨hv, hn⟩ | ⟨g, cap, cur, hv, h1, h2, h3, h4, h5, h6⟩
 · cases hv
   exact .inl ⟨by rw [h0 rfl], h0 rfl⟩
 · cases hv
   refine .inr ⟨g, c, cur, rfl, h1, h2, by omega, h4, h5, ?_⟩
   rw [← h6, List.take_take]
   congr 1
   omega
/-- In different blocks. -/
def Apart (v1 v2 : Value) : Prop := ∀ g, v1.ownBlock = some g → v2.ownBlock ≠ some g
theorem Apart.symm {v1 v2 : Value} (h : Apart v1 v2) : Apart v2 v1 := fun g h1 h2 => h g h2 h1
theorem Apart.none {v : Value} (k m : Nat) : Apart (.slice none k m) v := fun g h => by simp [Value.ownBlock] at h
theorem Apart.next {v1 v1' v2 : Value} {m : Nat} {ys : List Value} {b' : Nat} {e' : TypeId} {s' : Nat} (h : Apart v1 v2) (h2 : w.ownsRow b' e' s' v2 m ys) (hat : v1'.ownBlock = v1.ownBlock ∨ v1'.ownBlock = some w.heap.size) : Apart v1' v2 := fun g hg => by
 rcases hat with hat | hat
 · exact h g (by rw [← hat]; exact hg)
 · intro h3
   have := h2.lt g h3
   rw [hat] at hg
   cases hg
   omega
theorem Apart.same {v1 v1' v2 : Value} (h : Apart v1 v2) (hat : v1'.ownBlock = v1.ownBlock) : Apart v1' v2 := fun g hg => h g (by rw [← hat]; exact hg)
theorem own_keep {row : Option Nat} (h : w.ownsRow base e size v n xs) (hg : w.grownBy w' row) (hne : v.ownBlock ≠ row ∨ v.ownBlock = none) : w'.ownsRow base e size v n xs := h.kept hg hne.symm
theorem own_apart {v2 : Value} (h : w.ownsRow base e size v n xs) (hg : w.grownBy w' v2.ownBlock) (hne : Apart v v2) : w'.ownsRow base e size v n xs := h.kept hg (by
 cases hv : v.ownBlock with
 | none => exact .inl rfl
 | some g => exact .inr fun e => hne g hv e.symm)
theorem own_below {B : Nat} (h : w.ownsRow base e size v n xs) (hb : Below B w w') (hB : w.heap.size ≤ B) : w'.ownsRow base e size v n xs := by
 refine h.kept (row := none) ⟨hb.os, hb.tape, hb.output, hb.size, fun k hk _ => hb.block k (by omega)⟩ ?_
 cases v.ownBlock <;> simp
theorem grown_of_below {B : Nat} (hb : Below B w w') (hB : w.heap.size ≤ B) (row : Option Nat) : w.grownBy w' row := ⟨hb.os, hb.tape, hb.output, hb.size, fun k hk _ => hb.block k (by omega)⟩
theorem blk_own_ne {g : Nat} (hb : g < base) (h : w.ownsRow base e size v n xs) : v.ownBlock ≠ some g := fun hg => by
 have := (h.lt g hg).1
 omega
end
section
variable {w w' w2 : World} {S : Nat → Prop}
theorem Kept.alloc (h : Kept S w w') (hS : ∀ b, S b → b < w'.heap.size) (o : Obj) : Kept S w (w'.alloc o) := fun p hp => (World.cell?_alloc_lt w' o p (hS _ hp)).trans (h p hp)
theorem Kept.grown {row : Option Nat} (h : Kept S w w') (hg : w'.grownBy w2 row) (hS : ∀ b, S b → b < w'.heap.size) (hne : ∀ b, S b → some b ≠ row) : Kept S w w2 := fun p hp => (World.cell?_of_block (hg.block p.block (hS _ hp) (hne _ hp))).trans (h p hp)
theorem Kept.set {p : Addr} (h : Kept S w w') (hp : ¬ S p.block) (u : Value) : Kept S w (w'.setCell p u) := fun q hq => (World.cell?_of_block (Below.heap_setCell _ _ _ _ (fun e => hp (e ▸ hq)))).trans (h q hq)
end
/-! ### rows of rows that grow -/
abbrev hdr (h : Option Addr × Nat) (l : List Int) : Value := .slice h.1 l.length h.2
def hdrs (hs : List (Option Addr × Nat)) (ls : List (List Int)) : List Value := List.zipWith hdr hs ls
structure OwnMat (w : World) (base : Nat) (e : TypeId) (hs : List (Option Addr × Nat)) (ls : List (List Int)) : Prop where
 len : hs.length = ls.length
 own : ∀ (k : Nat) h l, hs[k]? = some h → ls[k]? = some l → w.ownsRow base e 1 (hdr h l) l.length (ints l)
 apart : ∀ (i j : Nat) h h' g, hs[i]? = some h → hs[j]? = some h' → (h.1.map (·.block)) = some g → (h'.1.map (·.block)) = some g → i = j
section
variable {w w' : World} {base : Nat} {e : TypeId} {hs : List (Option Addr × Nat)} {ls : List (List Int)}
theorem hdr_block (h : Option Addr × Nat) (l : List Int) : (hdr h l).ownBlock = h.1.map (·.block) := by
 obtain ⟨A, c⟩ := h
 cases A <;> rfl
theorem OwnMat.made (w : World) (base : Nat) (e : TypeId) (n : Nat) : OwnMat w base e (List.replicate n (none, 0)) (List.replicate n []) := by
 refine ⟨by simp, fun k h l h1 h2 => ?_, fun i j h h' g h1 h2 h3 _ => ?_⟩
 · rw [List.getElem?_replicate] at h1 h2
   split at h1
   · cases h1
     rw [if_pos (by assumption)] at h2
     cases h2
     exact World.ownsRow_nil _ _ _ _
   · cases h1
 · rw [List.getElem?_replicate] at h1
   split at h1
   · cases h1; cases h3
   · cases h1
theorem OwnMat.lower (M : OwnMat w base e hs ls) {b' : Nat} (hb : b' ≤ base) : OwnMat w b' e hs ls := ⟨M.len, fun k h l h1 h2 => own_base (M.own k h l h1 h2) hb, M.apart⟩
theorem hdrs_made (n : Nat) : hdrs (List.replicate n (none, 0)) (List.replicate n []) = List.replicate n (.slice none 0 0) := by
 unfold hdrs
 induction n with
 | zero => rfl
 | succ n ih => simp [List.replicate_succ, ih]
theorem hdrs_len (h : hs.length = ls.length) : (hdrs hs ls).length = ls.length := by simp [hdrs, h]
theorem hdrs_at {k : Nat} {h : Option Addr × Nat} {l : List Int} (h1 : hs[k]? = some h) (h2 : ls[k]? = some l) : (hdrs hs ls)[k]? = some (hdr h l) := by
 unfold hdrs
 rw [List.getElem?_zipWith, h1, h2]
theorem hdrs_set {k : Nat} (h : Option Addr × Nat) (l : List Int) : (hdrs hs ls).set k (hdr h l) = hdrs (hs.set k h) (ls.set k l) := by
 unfold hdrs
 apply List.ext_getElem?
 intro i
 rw [List.getElem?_zipWith]
 by_cases e : k = i
 · subst e
   rw [List.getElem?_set_self', List.getElem?_set_self', List.getElem?_set_self', List.getElem?_zipWith]
   cases hs[k]? <;> cases ls[k]? <;> rfl
 · rw [List.getElem?_set_ne e, List.getElem?_set_ne e, List.getElem?_set_ne e, List.getElem?_zipWith]
theorem OwnMat.get (M : OwnMat w base e hs ls) {k : Nat} (hk : k < ls.length) : ∃ A c, hs[k]? = some (A, c) ∧ ls[k]? = some (ls.getD k []) ∧ w.ownsRow base e 1 (.slice A (ls.getD k []).length c) (ls.getD k []).length (ints (ls.getD k [])) := by
 have h1 : hs[k]? = some (hs[k]'(by rw [M.len]; exact hk)) := List.getElem?_eq_getElem _
 have h2 : ls[k]? = some (ls.getD k []) := by simp [hk]
 exact ⟨_, _, h1, h2, M.own k _ _ h1 h2⟩
/-- Nothing that lies in these rows is touched. -/
theorem OwnMat.kept {row : Option Nat} (M : OwnMat w base e hs ls) (hg : w.grownBy w' row) (hne : ∀ (k : Nat) h g, hs[k]? = some h → h.1.map (·.block) = some g → row ≠ some g) : OwnMat w' base e hs ls :=
 ⟨M.len, fun k h l h1 h2 => (M.own k h l h1 h2).kept hg (by
  rw [hdr_block]
  cases hb : h.1.map (·.block) with
  | none => exact .inl rfl
  | some g => exact .inr fun e => hne k h g h1 hb e.symm), M.apart⟩
theorem OwnMat.alloc (M : OwnMat w base e hs ls) (o : Obj) : OwnMat (w.alloc o) base e hs ls := M.kept (World.grownBy_alloc w o none) (fun _ _ _ _ _ => by simp)
theorem OwnMat.block (M : OwnMat w base e hs ls) {k : Nat} {h : Option Addr × Nat} {g : Nat} (h1 : hs[k]? = some h) (h2 : h.1.map (·.block) = some g) : base ≤ g ∧ g < w.heap.size := by
 have hk : k < ls.length := by rw [← M.len]; exact (List.getElem?_eq_some_iff.1 h1).1
 have := M.own k h (ls[k]) h1 (List.getElem?_eq_getElem hk)
 exact this.lt g (by rw [hdr_block]; exact h2)
theorem OwnMat.below {B : Nat} (M : OwnMat w base e hs ls) (hb : Below B w w') (hB : w.heap.size ≤ B) : OwnMat w' base e hs ls := M.kept (grown_of_below hb hB none) (fun _ _ _ _ _ => by simp)
/-- A block that is none of theirs. -/
theorem OwnMat.far (M : OwnMat w base e hs ls) {row : Nat} (hg : w.grownBy w' (some row)) (hr : row < base) : OwnMat w' base e hs ls := M.kept hg fun k h g h1 h2 e => by
 have := (M.block h1 h2).1
 cases e
 omega
/-- One of them grows. -/
theorem OwnMat.grow (M : OwnMat w base e hs ls) {k : Nat} {A A' : Option Addr} {c c' : Nat} {l l' : List Int} (hk : hs[k]? = some (A, c)) (hkl : k < ls.length) (hown : w'.ownsRow base e 1 (hdr (A', c') l') l'.length (ints l'))
 (hg : w.grownBy w' (hdr (A, c) l).ownBlock) (hat : (hdr (A', c') l').ownBlock = (hdr (A, c) l).ownBlock ∨ (hdr (A', c') l').ownBlock = some w.heap.size) : OwnMat w' base e (hs.set k (A', c')) (ls.set k l') := by
 have hkh : k < hs.length := by rw [M.len]; exact hkl
 rw [hdr_block] at hg
 rw [hdr_block, hdr_block] at hat
 refine ⟨by simp [M.len], fun i h y h1 h2 => ?_, fun i j h h' g h1 h2 h3 h4 => ?_⟩
 · by_cases e : k = i
   · subst e
     rw [List.getElem?_set_self hkh] at h1
     rw [List.getElem?_set_self hkl] at h2
     cases h1; cases h2
     exact hown
   · rw [List.getElem?_set_ne e] at h1 h2
     refine (M.own i h y h1 h2).kept hg ?_
     rw [hdr_block]
     cases hb : h.1.map (·.block) with
     | none => exact .inl rfl
     | some g => exact .inr fun e' => e (M.apart i k h (A, c) g h1 hk hb e'.symm).symm
 · have key : ∀ (q : Nat) (hq : Option Addr × Nat), k ≠ q → hs[q]? = some hq → hq.1.map (·.block) = some g → A'.map (·.block) = some g → False := fun q hq hne e1 e2 e3 => by
    rcases hat with hat | hat
    · rw [e3] at hat
      exact hne (M.apart k q (A, c) hq g hk e1 hat.symm e2)
    · rw [e3] at hat
      cases hat
      have := (M.block e1 e2).2
      omega
   by_cases ei : k = i
   · by_cases ej : k = j
     · omega
     · subst ei
       rw [List.getElem?_set_self hkh] at h1
       rw [List.getElem?_set_ne ej] at h2
       cases h1
       exact (key j h' ej h2 h4 h3).elim
   · by_cases ej : k = j
     · subst ej
       rw [List.getElem?_set_self hkh] at h2
       rw [List.getElem?_set_ne ei] at h1
       cases h2
       exact (key i h ei h1 h3 h4).elim
     · rw [List.getElem?_set_ne ei] at h1
       rw [List.getElem?_set_ne ej] at h2
       exact M.apart i j h h' g h1 h2 h3 h4
theorem OwnMat.grown (M : OwnMat w base e hs ls) {k n m : Nat} {A A' : Option Addr} {c c' : Nat} {l' : List Int} {xs : List Value} (hk : hs[k]? = some (A, c)) (hkl : k < ls.length) (hown : w'.ownsRow base e 1 (.slice A' n c') n xs) (hn : n = l'.length) (hx : xs = ints l')
 (hg : w.grownBy w' (Value.slice A m c).ownBlock) (hat : (Value.slice A' n c').ownBlock = (Value.slice A m c).ownBlock ∨ (Value.slice A' n c').ownBlock = some w.heap.size) : OwnMat w' base e (hs.set k (A', c')) (ls.set k l') := by
 subst hn hx
 have e1 : (Value.slice A m c).ownBlock = (hdr (A, c) l').ownBlock := by cases A <;> rfl
 rw [e1] at hg hat
 exact M.grow hk hkl hown hg hat
/-- They can be read. -/
theorem OwnMat.rd {G : Nat} {t : TypeId} (M : OwnMat w base e hs ls) (hG : Blk w G t ⟨hdrs hs ls⟩) {S : Nat → Prop} (hSG : S G) (hS : ∀ b, base ≤ b → b < w.heap.size → S b) : RdL rowShape w S (some ⟨G, 0, none⟩) ls := by
 refine ⟨hs, M.len, ?_, fun k l h h1 h2 => ?_⟩
 · have e : rowShape.cells ls hs = hdrs hs ls := by
    unfold Shape.cells hdrs rowShape
    simp only
    have hl := M.len
    clear M hG
    induction ls generalizing hs with
    | nil => simp
    | cons l ls ih =>
      cases hs with
      | nil => simp at hl
      | cons h hs =>
        simp only [List.zip_cons_cons, List.flatMap_cons, List.zipWith_cons_cons, List.cons_append, List.nil_append]
        rw [ih (by simpa using hl)]
   rw [e]
   exact ⟨by rw [hdrs_len M.len]; exact (Nat.mul_one _).symm, fun _ => ⟨G, 0, rfl, hSG, fun j u hu => by rw [Nat.zero_add, hG.cell]; simpa using hu⟩⟩
 · have ho := M.own k h l h2 h1
   obtain ⟨A, c⟩ := h
   refine ⟨by simp [ints], fun hn => ?_⟩
   rcases ho.2 with ⟨hv, hn0⟩ | ⟨g, cap, cur, hv, hb, hh, _⟩
   · omega
   · cases hv
     refine ⟨g, 0, rfl, hS g hb (Array.getElem?_eq_some_iff.1 hh).1, fun j u hu => ?_⟩
     have := ho.cells (g := g) rfl j u hu
     have e1 : (⟨g, 0, none⟩ : Addr).add j = ⟨g, 0 + j, none⟩ := by
      unfold Addr.add
      by_cases hj : j = 0 <;> simp [hj]
     rwa [e1] at this
end
end Go.Proofs.YtjjmpfmhggcjiaaGreatDoor
namespace Go.Proofs.YtjjmpfmhggcjiaaGreatDoor
open Go.RowKit Go.Maps
/-- A copy in new memory. -/
def ClonePost (w : World) (T : TypeId) (size n : Nat) (xs : List Value) (e : Ending) (w' : World) : Prop := ∃ A c, e = .returned (.slice A n c) ∧ w'.ownsRow w.heap.size T size (.slice A n c) n xs ∧ Below w.heap.size w w'
theorem info_cls : (Tryz.prog.info? 139).map (fun i => (i.zero, i.size, i.bytes)) = some (some (.agg #[.string ⟨#[]⟩]), 1, 16) := by kernel_rfl
set_option maxRecDepth 100000 in
set_option maxHeartbeats 1000000 in
theorem clone_cls (A : Option Addr) (n c : Nat) (xs : List Value) (w : World) (h : Rd w w.heap.size 1 A n xs) (h0 : A = none → n = 0) (hn : n ≤ 1000000) (h1 : ∀ u ∈ xs, u.oneCell' = true) :
 Calls Tryz.prog 68 #[.slice A n c] w (ClonePost w 139 1 n xs) := by
 have q : ∀ (w : World) (a : Option Addr) (n c n' c' : Nat), (binOp .eql 22 (.slice a n c) (.slice none n' c')).run Tryz.prog w = .ok (.bool a.isNone) w := fun w a n c n' c' => Lib.run_eql_slice_nil w _ _ a n c n' c' Tryz.underlying22
 cases A with
 | none =>
   obtain rfl := h0 rfl
   have hx : xs = [] := List.eq_nil_of_length_eq_zero (by simpa using h.1)
   go_enter Tryz.func68, Tryz.ntmps68
   go_wp2
   go_ret
   subst hx
   exact ⟨none, 0, rfl, World.ownsRow_nil _ _ _ _, Below.refl _ _⟩
 | some a =>
   obtain ⟨i0, hi, hz0, hz1, hz2⟩ := info_parts info_cls
   have hsp : 0 < n → a.spot = none := fun hn0 => by
    obtain ⟨b, off, e, _⟩ := h.2 hn0
    cases e; rfl
   have hc : ∀ j u, xs[j]? = some u → w.cell? (a.add j) = some u := fun j u hu => by
    by_cases hn0 : 0 < n
    · obtain ⟨b, off, e, _, hcc⟩ := h.2 hn0
      cases e
      have := hcc j u hu
      rwa [show (⟨b, off, none⟩ : Addr).add j = ⟨b, off + j, none⟩ from Go.WideShapes.add_plain b off j]
    · have : xs.length = 0 := by have := h.1; omega
      have := (List.getElem?_eq_some_iff.1 hu).1
      omega
   have Hc := Lib.hid hc
   have Hl := Lib.hid h.1
   have H1 := Lib.hid h1
   clear hc h h1 hsp h0
   go_enter Tryz.func68, Tryz.ntmps68
   go_wp2_with (at_builtin
                refine wpList_append_own_at _ rfl _ _ 22 rfl w.heap.size 139 i0 _ 1 16 Tryz.underlying22 hi hz0 hz1 hz2 rfl (by decide) _ 0 [] rfl (World.ownsRow_made w #[] 0 (Nat.le_refl _) (Nat.zero_le _) rfl) a n c xs rfl Hl.out (fun j u hu => by first | exact Hc.out j u hu | (rw [World.cell?_alloc_lt]; exact Hc.out j u hu; exact World.block_lt_of_cell? w _ (Hc.out j u hu))) H1.out (by unfold maxLen; omega) (by omega) (by simp) ?_
                intro v' w1 hown hg _ _
                simp only [Nat.zero_add, List.nil_append] at hown
                obtain ⟨A', c', rfl⟩ := own_slice hown)
   go_ret
   exact ⟨A', c', rfl, hown, ((Below.refl w.heap.size w).alloc (Nat.le_refl _) _).grown hg (by simp) (fun k hk => by
    have e : some w.heap.size = some k := hk
    cases e
    exact Nat.le_refl _)⟩
theorem info_ins : (Tryz.prog.info? 118).map (fun i => (i.zero, i.size, i.bytes)) = some (some (.agg #[.int .i64 0, .int .i64 0, .int .i64 0, .int .i64 0]), 4, 32) := by kernel_rfl
set_option maxRecDepth 100000 in
set_option maxHeartbeats 1000000 in
theorem clone_ins (A : Option Addr) (n c : Nat) (xs : List Value) (w : World) (h : Rd w w.heap.size 4 A n xs) (h0 : A = none → n = 0) (hn : n ≤ 1000000) (h1 : ∀ u ∈ xs, u.oneCell' = true) :
 Calls Tryz.prog 69 #[.slice A n c] w (ClonePost w 118 4 n xs) := by
 have q : ∀ (w : World) (a : Option Addr) (n c n' c' : Nat), (binOp .eql 88 (.slice a n c) (.slice none n' c')).run Tryz.prog w = .ok (.bool a.isNone) w := fun w a n c n' c' => Lib.run_eql_slice_nil w _ _ a n c n' c' Tryz.underlying88
 cases A with
 | none =>
   obtain rfl := h0 rfl
   have hx : xs = [] := List.eq_nil_of_length_eq_zero (by simpa using h.1)
   go_enter Tryz.func69, Tryz.ntmps69
   go_wp2
   go_ret
   subst hx
   exact ⟨none, 0, rfl, World.ownsRow_nil _ _ _ _, Below.refl _ _⟩
 | some a =>
   obtain ⟨i0, hi, hz0, hz1, hz2⟩ := info_parts info_ins
   have hsp : 0 < n → a.spot = none := fun hn0 => by
    obtain ⟨b, off, e, _⟩ := h.2 hn0
    cases e; rfl
   have hc : ∀ j u, xs[j]? = some u → w.cell? (a.add j) = some u := fun j u hu => by
    by_cases hn0 : 0 < n
    · obtain ⟨b, off, e, _, hcc⟩ := h.2 hn0
      cases e
      have := hcc j u hu
      rwa [show (⟨b, off, none⟩ : Addr).add j = ⟨b, off + j, none⟩ from Go.WideShapes.add_plain b off j]
    · have : xs.length = 0 := by have := h.1; omega
      have := (List.getElem?_eq_some_iff.1 hu).1
      omega
   have Hc := Lib.hid hc
   have Hl := Lib.hid h.1
   have H1 := Lib.hid h1
   clear hc h h1 hsp h0
   go_enter Tryz.func69, Tryz.ntmps69
   go_wp2_with (at_builtin
                refine wpList_append_own_at _ rfl _ _ 88 rfl w.heap.size 118 i0 _ 4 32 Tryz.underlying88 hi hz0 hz1 hz2 rfl (by decide) _ 0 [] rfl (World.ownsRow_made w #[] 0 (Nat.le_refl _) (Nat.zero_le _) rfl) a n c xs rfl Hl.out (fun j u hu => by first | exact Hc.out j u hu | (rw [World.cell?_alloc_lt]; exact Hc.out j u hu; exact World.block_lt_of_cell? w _ (Hc.out j u hu))) H1.out (by unfold maxLen; omega) (by omega) (by simp) ?_
                intro v' w1 hown hg _ _
                simp only [Nat.zero_add, List.nil_append] at hown
                obtain ⟨A', c', rfl⟩ := own_slice hown)
   go_ret
   exact ⟨A', c', rfl, hown, ((Below.refl w.heap.size w).alloc (Nat.le_refl _) _).grown hg (by simp) (fun k hk => by
    have e : some w.heap.size = some k := hk
    cases e
    exact Nat.le_refl _)⟩
end Go.Proofs.YtjjmpfmhggcjiaaGreatDoor
namespace Go.Proofs.YtjjmpfmhggcjiaaGreatDoor
open Go.RowKit Go.Maps
theorem wpList_append_zeros0 {P : Program} {w : World} {ops : Array Oper} {rest : List Oper} {o : Oper} {a : Act} {Q : Exit → Act → World → Prop} (hw : Region.wanted o (yielded ops a.tmps) = true) (s x : Operand) (t tn : TypeId)
 (ho : o.op = .call { callee := .builtin .append, args := #[s, x], argTypes := #[t, tn] }) (e : TypeId) (i : TypeInfo) (z0 : Value) (kq kn : IntKind) (ht : P.underlying t = some (.slice e)) (htn : P.underlying tn = some (.int kn)) (hi : P.info? e = some i) (hz : i.zero = some z0)
 (hzc : z0.cells = #[z0]) (hs1 : i.size = 1) (hs : a.eval s = .slice none 0 0) (k : Nat) (hx : a.eval x = .int kq k) (hk : 0 < k)
 (h63 : k ≤ maxLen) (hbytes : k * i.bytes ≤ 140737488355328)
 (h : ∀ c' w', w'.ownsRow w.heap.size e 1 (.slice (some ⟨w.heap.size, 0, none⟩) k c') k (List.replicate k z0) → Below w.heap.size w w' → k ≤ c' → wpList P ops Q rest (a.put o.dst (.slice (some ⟨w.heap.size, 0, none⟩) k c')) w') : wpList P ops Q (o :: rest) a w := by
 refine wpList_on hw fun K hK => ?_
 have hsmall : k ≤ 9223372036854775807 := by simp only [maxLen] at h63; omega
 have hfit := growslice_fits (need := 0 + k) (old := 0) (bytes := i.bytes) (by omega) (by simpa using hbytes)
 have hfc : (Builtin.firstCells i.size 0 (.slice none 0 0)).run P w.drew = .ok ([] : List Value).toArray w.drew := by simp [Builtin.firstCells, go_sem]
 have hr := Lib.run_append_grow_zeros (P := P) w t tn o.type e i z0 kq kn ht htn hi hz none 0 0 [] hfc k hk (by omega) (by omega) (by omega) (by omega) hfit
 have hge := grownCap_ge w (0 + k) 0 e
 have hcmx : grownCap w (0 + k) 0 e ≤ maxLen := grownCap_le_maxLen w (0 + k) 0 e (by omega)
 have hge' : k ≤ grownCap w (0 + k) 0 e := by omega
 unfold Oper.wp execOp
 simp only [ho, resolve, invoke, builtin, Sem.run_bind, Sem.run_pure, Result.andThen_ok, List.map_toArray, List.map_cons, List.map_nil, hs, hx, hr, Nat.zero_add] at hge' ⊢
 rw [Nat.zero_add] at hcmx
 refine hK _ _ (h _ _ ⟨by simp, .inr ⟨w.heap.size, _, _, rfl, Nat.le_refl _, heap_alloc_new w.drew _, hge', hcmx, ?_, ?_⟩⟩ ((Below.refl _ _).drew.alloc (Nat.le_refl _) _) hge')
 · simp only [Array.size_append, List.size_toArray, size_zeroCells, hzc]
   simp
   omega
 · simp only [Array.toList_append, List.append_assoc, hzc, zeroCells_one]
   simp
def GrowPost (w : World) (e : Ending) (w' : World) : Prop := ∃ A c, e = .returned (.slice A 0 c) ∧ w'.ownsRow w.heap.size 3 1 (.slice A 0 c) 0 [] ∧ Below w.heap.size w w'
set_option maxRecDepth 100000 in
set_option maxHeartbeats 1000000 in
theorem grow_any (n : Nat) (hn : n ≤ 10000000) (w : World) : Calls Tryz.prog 172 #[.slice none 0 0, .int .i64 n] w (GrowPost w) := by
 have hPP : ∀ A c w', w'.ownsRow w.heap.size 3 1 (.slice A 0 c) 0 [] → Below w.heap.size w w' → GrowPost w (.returned (.slice A 0 c)) w' := fun A c w' h1 h2 => ⟨A, c, rfl, h1, h2⟩
 have HP := Lib.hid hPP
 clear hPP
 generalize GrowPost w = Post at *
 obtain ⟨ii, hi1, hi2, hi3, hi4⟩ := info_parts infoIntR
 have Hi1 := Lib.hid hi1
 have Hi2 := Lib.hid hi2
 have Hi3 := Lib.hid hi3
 have Hi4 := Lib.hid hi4
 clear hi1 hi2 hi3 hi4
 by_cases h0 : n = 0
 · subst h0
   go_enter Tryz.func172, Tryz.ntmps172
   go_wp2
   exact HP.out none 0 _ (World.ownsRow_nil _ _ _ _) (Below.refl _ _)
 · have n0 : (0 : Int) < n := by omega
   have n1 : 0 < n := by omega
   go_enter Tryz.func172, Tryz.ntmps172
   go_upto_region 6 with (at_builtin
                          refine wpList_append_zeros0 rfl (.tmp 20) (.tmp 21) 47 3 rfl 3 ii _ .i64 .i64 Tryz.underlying47 Tryz.underlying3 Hi1.out Hi2.out rfl Hi3.out rfl n rfl n1 (by unfold maxLen; omega) (by rw [Hi4.out]; omega) ?_
                          intro c2 w2 hown2 hb2 hc2)
   have hown3 := own_take hown2 (k := 0) (by omega) (fun h => by cases h)
   rw [List.take_zero] at hown3
   go_wp2
   exact HP.out _ _ _ hown3 hb2
def ConcatPost (w : World) (l : List Int) (e : Ending) (w' : World) : Prop := ∃ A c, e = .returned (.slice A l.length c) ∧ w'.ownsRow w.heap.size 3 1 (.slice A l.length c) l.length (ints l) ∧ Below w.heap.size w w'
theorem flat_take_step (ls : List (List Int)) {k : Nat} (hk : k < ls.length) : (ls.take (k + 1)).flatten = (ls.take k).flatten ++ ls.getD k [] := by
 rw [List.take_add_one, List.flatten_append]
 simp [hk]
theorem flat_take_le (ls : List (List Int)) (k : Nat) : (ls.take k).flatten.length ≤ ls.flatten.length := by
 have e : ls.flatten = (ls.take k).flatten ++ (ls.drop k).flatten := by rw [← List.flatten_append, List.take_append_drop]
 rw [e, List.length_append]
 omega
set_option maxRecDepth 100000 in
set_option maxHeartbeats 2000000 in
theorem concat_any (A : Option Addr) (c : Nat) (ls : List (List Int)) (w : World) (hr : RdL rowShape w (· < w.heap.size) A ls) (hn : ls.length ≤ 1000) (ht : ls.flatten.length ≤ 1000000) :
 Calls Tryz.prog 131 #[.slice A ls.length c] w (ConcatPost w ls.flatten) := by
 have hPP : ∀ A' c' n w', n = ls.flatten.length → w'.ownsRow w.heap.size 3 1 (.slice A' n c') n (ints ls.flatten) → Below w.heap.size w w' → ConcatPost w ls.flatten (.returned (.slice A' n c')) w' := fun A' c' n w' h0 h1 h2 => by subst h0; exact ⟨A', c', rfl, h1, h2⟩
 have HP := Lib.hid hPP
 clear hPP
 generalize ConcatPost w ls.flatten = Post at *
 obtain ⟨ii, hi1, hi2, hi3, hi4⟩ := info_parts infoIntR
 have Hi1 := Lib.hid hi1
 have Hi2 := Lib.hid hi2
 have Hi3 := Lib.hid hi3
 have Hi4 := Lib.hid hi4
 have Hle := Lib.hid (fun k => Nat.le_trans (flat_take_le ls k) ht)
 have Hst := Lib.hid (fun k (hk : k < ls.length) => flat_take_step ls hk)
 have Hr := Lib.hid hr
 clear hi1 hi2 hi3 hi4 hr
 go_enter Tryz.func131, Tryz.ntmps131
 go_wp2
 go_loopw [11, 3] (fun iv sv wr => ∃ k : Nat, k ≤ ls.length ∧ iv = .int .i64 k ∧ sv = .int .i64 ((ls.take k).flatten.length : Nat) ∧ wr = w) (fun iv _ _ => ls.length - (intOf iv).toNat)
 case atStart => exact ⟨0, Nat.zero_le _, rfl, rfl, rfl⟩
 case round =>
  obtain ⟨k, hk, rfl, rfl, rfl⟩ := hrel
  by_cases hlt : k < ls.length
  · have k0 : (0 : Int) ≤ k := by omega
    have k1 : (k : Int) < ls.length := by omega
    obtain ⟨b, off, A1, c1, hA, hb, y, hrd⟩ := rd_row Hr.out hlt
    subst hA
    have hs1 := Hle.out (k + 1)
    have hs2 := Hst.out k hlt
    have hs3 := congrArg List.length hs2
    rw [List.length_append] at hs3
    have Hs3 := Lib.hid hs3
    rw [hs3] at hs1
    clear hs2 hs3 hrd
    generalize (ls.take k).flatten.length = sz at *
    generalize (ls.getD k []).length = m at *
    have hw1 : IntKind.i64.wrap ((sz : Int) + m) = (sz : Int) + m := IntWalk.i64_in _ (by omega)
    have hnn : ¬ ((sz : Int) + m < 0) := by omega
    go_wp2
    go_roundw
    case rel => exact ⟨k + 1, by omega, by go_num, by rw [Hs3.out]; simp, by trivial⟩
    case measure => simp [intOf]; omega
  · have e : k = ls.length := by omega
    have hge : ¬ (k : Int) < ls.length := by omega
    have hfl : (ls.take k).flatten.length = ls.flatten.length := by rw [e, List.take_length]
    rw [hfl]
    clear hlt hfl
    generalize hfn : ls.flatten.length = fn at *
    have Hfn := Lib.hid hfn
    clear hfn
    generalize wr = w at *
    go_wp2_with fail
    refine (grow_any fn (by omega) _).mono ?_
    rintro e w2 ⟨A2, c2, rfl, own2, hb2⟩
    go_wp2
    go_loopw [27, 6] (fun iv rv wr => ∃ (j : Nat) (A3 : Option Addr) (c3 : Nat), j ≤ ls.length ∧ iv = .int .i64 j ∧ rv = .slice A3 (ls.take j).flatten.length c3 ∧ wr.ownsRow w.heap.size 3 1 (.slice A3 (ls.take j).flatten.length c3) (ls.take j).flatten.length (ints (ls.take j).flatten) ∧ Below w.heap.size w wr) (fun iv _ _ => ls.length - (intOf iv).toNat)
    case atStart => exact ⟨0, A2, c2, Nat.zero_le _, rfl, rfl, own2, hb2⟩
    case round =>
     clear own2 hb2
     obtain ⟨j, A3, c3, hj, rfl, rfl, own, hb⟩ := hrel
     by_cases hlt : j < ls.length
     · have k0 : (0 : Int) ≤ j := by omega
       have k1 : (j : Int) < ls.length := by omega
       obtain ⟨b, off, A1, c1, hA, hb1, y, hrd⟩ := rd_row (Hr.out.below hb (fun _ h => h)) hlt
       subst hA
       have hs1 := Hle.out (j + 1)
       have hs2 := Hst.out j hlt
       have hs3 := congrArg List.length hs2
       rw [List.length_append] at hs3
       have Hs2 := Lib.hid hs2
       have Hs3 := Lib.hid hs3
       rw [hs3] at hs1
       have hrd2 := hrd.rd (B := w.heap.size) (fun b h => h)
       have Hrd := Lib.hid hrd2
       have hwz := hb.size
       clear hs2 hs3 hrd hrd2
       generalize (ls.take j).flatten = sl at *
       generalize ls.getD j [] = l1 at *
       go_wp2_with (at_builtin
                    refine wpList_append_rd rfl (.tmp 31) (.tmp 32) 47 rfl w.heap.size 3 ii _ 8 Tryz.underlying47 Hi1.out Hi2.out Hi3.out Hi4.out rfl (.slice A3 sl.length c3) sl.length (ints sl) rfl own w.heap.size A1 l1.length c1 (ints l1) rfl Hrd.out (fun u hu => ints_one hu) (by unfold maxLen; omega) (by omega) hwz ?_
                    intro A4 c4 w4 own4 hg4)
       go_roundw
       case rel => exact ⟨j + 1, A4, c4, by omega, by go_num, by rw [Hs3.out], by rw [Hs2.out, List.length_append]; simpa [ints] using own4, hb.grown hg4 hwz (fun i hi => (own.lt i hi).1)⟩
       case measure => simp [intOf]; omega
     · have e : j = ls.length := by omega
       have hge2 : ¬ (j : Int) < ls.length := by omega
       have e2 : (ls.take j).flatten = ls.flatten := by rw [e, List.take_length]
       rw [e2] at own ⊢
       rw [Hfn.out] at own ⊢
       clear hlt e e2
       go_wp2
       exact HP.out _ _ _ _ rfl own hb
end Go.Proofs.YtjjmpfmhggcjiaaGreatDoor
