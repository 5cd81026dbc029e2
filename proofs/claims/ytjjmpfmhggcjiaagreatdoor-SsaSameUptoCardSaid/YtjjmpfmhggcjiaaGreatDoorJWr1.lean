/-
 Own, Wr1.
-/
import Derived.Shelf.Strings.Builder1
import Derived.Test.YtjjmpfmhggcjiaaGreatDoorJShape
set_option linter.unusedSimpArgs false
set_option linter.unusedVariables false
namespace Go.Proofs.YtjjmpfmhggcjiaaGreatDoor
open Go.RowKit Go.Maps
section
variable {w w' : World} {base : Nat} {e : TypeId} {size n c : Nat} {v : Value} {A : Option Addr} {xs : List Value}
theorem own_base (h : w.ownsRow base e size v n xs) {b' : Nat} (hb : b' ≤ base) : w.ownsRow b' e size v n xs := by
 refine ⟨h.1, ?_⟩
 rcases h.2 with h0 | ⟨g, cap, cur, h1, h2, h3⟩
 · exact .inl h0
 · exact .inr ⟨g, cap, cur, h1, by omega, h3⟩
/-- s[:k] of a row of one's own. -/
theorem own_take (h : w.ownsRow base e 1 (.slice A n c) n xs) {k : Nat} (hk : k ≤ n) (h0 : A = none → k = 0) : w.ownsRow base e 1 (.slice A k c) k (xs.take k) := by
 have hl := h.1
 refine ⟨by simp; omega, ?_⟩
 rcases h.2 with ⟨hv, hn⟩ | ⟨g, cap, cur, hv, h1, h2, h3, h4, h5, h6⟩
 · cases hv
   exact .inl ⟨by rw [h0 rfl], h0 rfl⟩
 · cases hv
   refine .inr ⟨g, c, cur, rfl, h1, h2, by omega, h4, h5, ?_⟩
   rw [← h6, List.take_take]
   congr 1
   omega
/-- In different blocks. -/
def Apart (v1 v2 : Value) : Prop := ∀ g, v1.ownBlock = some g → v2.ownBlock ≠ some g
theorem Apart.symm {v1 v2 : Value} (h : Apart v1 v2) : Apart v2 v1 := fun g h1 h2 => h g h2 h1
theorem Apart.none {v : Value} (k m : Nat) : Apart (.slice none k m) v := fun g h => by simp [Value.ownBlock] at h
theorem Apart.next {v1 v1' v2 : Value} {m : Nat} {ys : List Value} {b' : Nat} {e' : TypeId} {s' : Nat} (h : Apart v1 v2) (h2 : w.ownsRow b' e' s' v2 m ys) (hat : v1'.ownBlock = v1.ownBlock ∨ v1'.ownBlock = some w.heap.size) : Apart v1' v2 := fun g hg => by
 rcases hat with hat | hat
 · exact h g (by rw [← hat]; exact hg)
 · intro h3
   have := h2.lt g h3
   rw [hat] at hg
   cases hg
   omega
theorem Apart.same {v1 v1' v2 : Value} (h : Apart v1 v2) (hat : v1'.ownBlock = v1.ownBlock) : Apart v1' v2 := fun g hg => h g (by rw [← hat]; exact hg)
theorem own_keep {row : Option Nat} (h : w.ownsRow base e size v n xs) (hg : w.grownBy w' row) (hne : v.ownBlock ≠ row ∨ v.ownBlock = none) : w'.ownsRow base e size v n xs := h.kept hg hne.symm
theorem own_apart {v2 : Value} (h : w.ownsRow base e size v n xs) (hg : w.grownBy w' v2.ownBlock) (hne : Apart v v2) : w'.ownsRow base e size v n xs := h.kept hg (by
 cases hv : v.ownBlock with
 | none => exact .inl rfl
 | some g => exact .inr fun e => hne g hv e.symm)
theorem own_below {B : Nat} (h : w.ownsRow base e size v n xs) (hb : Below B w w') (hB : w.heap.size ≤ B) : w'.ownsRow base e size v n xs := by
 refine h.kept (row := none) ⟨hb.os, hb.tape, hb.output, hb.size, fun k hk _ => hb.block k (by omega)⟩ ?_
 cases v.ownBlock <;> simp
theorem grown_of_below {B : Nat} (hb : Below B w w') (hB : w.heap.size ≤ B) (row : Option Nat) : w.grownBy w' row := ⟨hb.os, hb.tape, hb.output, hb.size, fun k hk _ => hb.block k (by omega)⟩
theorem blk_own_ne {g : Nat} (hb : g < base) (h : w.ownsRow base e size v n xs) : v.ownBlock ≠ some g := fun hg => by
 have := (h.lt g hg).1
 omega
end
section
variable {w w' w2 : World} {S : Nat → Prop}
theorem Kept.alloc (h : Kept S w w') (hS : ∀ b, S b → b < w'.heap.size) (o : Obj) : Kept S w (w'.alloc o) := fun p hp => (World.cell?_alloc_lt w' o p (hS _ hp)).trans (h p hp)
theorem Kept.grown {row : Option Nat} (h : Kept S w w') (hg : w'.grownBy w2 row) (hS : ∀ b, S b → b < w'.heap.size) (hne : ∀ b, S b → some b ≠ row) : Kept S w w2 := fun p hp => (World.cell?_of_block (hg.block p.block (hS _ hp) (hne _ hp))).trans (h p hp)
theorem Kept.set {p : Addr} (h : Kept S w w') (hp : ¬ S p.block) (u : Value) : Kept S w (w'.setCell p u) := fun q hq => (World.cell?_of_block (Below.heap_setCell _ _ _ _ (fun e => hp (e ▸ hq)))).trans (h q hq)
end
/-! ### rows of rows that grow -/
abbrev hdr (h : Option Addr × Nat) (l : List Int) : Value := .slice h.1 l.length h.2
def hdrs (hs : List (Option Addr × Nat)) (ls : List (List Int)) : List Value := List.zipWith hdr hs ls
structure OwnMat (w : World) (base : Nat) (e : TypeId) (hs : List (Option Addr × Nat)) (ls : List (List Int)) : Prop where
 len : hs.length = ls.length
 own : ∀ (k : Nat) h l, hs[k]? = some h → ls[k]? = some l → w.ownsRow base e 1 (hdr h l) l.length (ints l)
 apart : ∀ (i j : Nat) h h' g, hs[i]? = some h → hs[j]? = some h' → (h.1.map (·.block)) = some g → (h'.1.map (·.block)) = some g → i = j
section
variable {w w' : World} {base : Nat} {e : TypeId} {hs : List (Option Addr × Nat)} {ls : List (List Int)}
theorem hdr_block (h : Option Addr × Nat) (l : List Int) : (hdr h l).ownBlock = h.1.map (·.block) := by
 obtain ⟨A, c⟩ := h
 cases A <;> rfl
theorem OwnMat.made (w : World) (base : Nat) (e : TypeId) (n : Nat) : OwnMat w base e (List.replicate n (none, 0)) (List.replicate n []) := by
 refine ⟨by simp, fun k h l h1 h2 => ?_, fun i j h h' g h1 h2 h3 _ => ?_⟩
 · rw [List.getElem?_replicate] at h1 h2
   split at h1
   · cases h1
     rw [if_pos (by assumption)] at h2
     cases h2
     exact World.ownsRow_nil _ _ _ _
   · cases h1
 · rw [List.getElem?_replicate] at h1
   split at h1
   · cases h1; cases h3
   · cases h1
theorem OwnMat.lower (M : OwnMat w base e hs ls) {b' : Nat} (hb : b' ≤ base) : OwnMat w b' e hs ls := ⟨M.len, fun k h l h1 h2 => own_base (M.own k h l h1 h2) hb, M.apart⟩
theorem hdrs_made (n : Nat) : hdrs (List.replicate n (none, 0)) (List.replicate n []) = List.replicate n (.slice none 0 0) := by
 unfold hdrs
 induction n with
 | zero => rfl
 | succ n ih => simp [List.replicate_succ, ih]
theorem hdrs_len (h : hs.length = ls.length) : (hdrs hs ls).length = ls.length := by simp [hdrs, h]
theorem hdrs_at {k : Nat} {h : Option Addr × Nat} {l : List Int} (h1 : hs[k]? = some h) (h2 : ls[k]? = some l) : (hdrs hs ls)[k]? = some (hdr h l) := by
 unfold hdrs
 rw [List.getElem?_zipWith, h1, h2]
theorem hdrs_set {k : Nat} (h : Option Addr × Nat) (l : List Int) : (hdrs hs ls).set k (hdr h l) = hdrs (hs.set k h) (ls.set k l) := by
 unfold hdrs
 apply List.ext_getElem?
 intro i
 rw [List.getElem?_zipWith]
 by_cases e : k = i
 · subst e
   rw [List.getElem?_set_self', List.getElem?_set_self', List.getElem?_set_self', List.getElem?_zipWith]
   cases hs[k]? <;> cases ls[k]? <;> rfl
 · rw [List.getElem?_set_ne e, List.getElem?_set_ne e, List.getElem?_set_ne e, List.getElem?_zipWith]
theorem OwnMat.get (M : OwnMat w base e hs ls) {k : Nat} (hk : k < ls.length) : ∃ A c, hs[k]? = some (A, c) ∧ ls[k]? = some (ls.getD k []) ∧ w.ownsRow base e 1 (.slice A (ls.getD k []).length c) (ls.getD k []).length (ints (ls.getD k [])) := by
 have h1 : hs[k]? = some (hs[k]'(by rw [M.len]; exact hk)) := List.getElem?_eq_getElem _
 have h2 : ls[k]? = some (ls.getD k []) := by simp [hk]
 exact ⟨_, _, h1, h2, M.own k _ _ h1 h2⟩
/-- Nothing that lies in these rows is touched. -/
theorem OwnMat.kept {row : Option Nat} (M : OwnMat w base e hs ls) (hg : w.grownBy w' row) (hne : ∀ (k : Nat) h g, hs[k]? = some h → h.1.map (·.block) = some g → row ≠ some g) : OwnMat w' base e hs ls :=
 ⟨M.len, fun k h l h1 h2 => (M.own k h l h1 h2).kept hg (by
  rw [hdr_block]
  cases hb : h.1.map (·.block) with
  | none => exact .inl rfl
  | some g => exact .inr fun e => hne k h g h1 hb e.symm), M.apart⟩
theorem OwnMat.alloc (M : OwnMat w base e hs ls) (o : Obj) : OwnMat (w.alloc o) base e hs ls := M.kept (World.grownBy_alloc w o none) (fun _ _ _ _ _ => by simp)
theorem OwnMat.block (M : OwnMat w base e hs ls) {k : Nat} {h : Option Addr × Nat} {g : Nat} (h1 : hs[k]? = some h) (h2 : h.1.map (·.block) = some g) : base ≤ g ∧ g < w.heap.size := by
 have hk : k < ls.length := by rw [← M.len]; exact (List.getElem?_eq_some_iff.1 h1).1
 have := M.own k h (ls[k]) h1 (List.getElem?_eq_getElem hk)
 exact this.lt g (by rw [hdr_block]; exact h2)
theorem OwnMat.below {B : Nat} (M : OwnMat w base e hs ls) (hb : Below B w w') (hB : w.heap.size ≤ B) : OwnMat w' base e hs ls := M.kept (grown_of_below hb hB none) (fun _ _ _ _ _ => by simp)
/-- A block that is none of theirs. -/
theorem OwnMat.far (M : OwnMat w base e hs ls) {row : Nat} (hg : w.grownBy w' (some row)) (hr : row < base) : OwnMat w' base e hs ls := M.kept hg fun k h g h1 h2 e => by
 have := (M.block h1 h2).1
 cases e
 omega
/-- One of them grows. -/
theorem OwnMat.grow (M : OwnMat w base e hs ls) {k : Nat} {A A' : Option Addr} {c c' : Nat} {l l' : List Int} (hk : hs[k]? = some (A, c)) (hkl : k < ls.length) (hown : w'.ownsRow base e 1 (hdr (A', c') l') l'.length (ints l'))
 (hg : w.grownBy w' (hdr (A, c) l).ownBlock) (hat : (hdr (A', c') l').ownBlock = (hdr (A, c) l).ownBlock ∨ (hdr (A', c') l').ownBlock = some w.heap.size) : OwnMat w' base e (hs.set k (A', c')) (ls.set k l') := by
 have hkh : k < hs.length := by rw [M.len]; exact hkl
 rw [hdr_block] at hg
 rw [hdr_block, hdr_block] at hat
 refine ⟨by simp [M.len], fun i h y h1 h2 => ?_, fun i j h h' g h1 h2 h3 h4 => ?_⟩
 · by_cases e : k = i
   · subst e
     rw [List.getElem?_set_self hkh] at h1
     rw [List.getElem?_set_self hkl] at h2
     cases h1; cases h2
     exact hown
   · rw [List.getElem?_set_ne e] at h1 h2
     refine (M.own i h y h1 h2).kept hg ?_
     rw [hdr_block]
     cases hb : h.1.map (·.block) with
     | none => exact .inl rfl
     | some g => exact .inr fun e' => e (M.apart i k h (A, c) g h1 hk hb e'.symm).symm
 · have key : ∀ (q : Nat) (hq : Option Addr × Nat), k ≠ q → hs[q]? = some hq → hq.1.map (·.block) = some g → A'.map (·.block) = some g → False := fun q hq hne e1 e2 e3 => by
    rcases hat with hat | hat
    · rw [e3] at hat
      exact hne (M.apart k q (A, c) hq g hk e1 hat.symm e2)
    · rw [e3] at hat
      cases hat
      have := (M.block e1 e2).2
      omega
   by_cases ei : k = i
   · by_cases ej : k = j
     · omega
     · subst ei
       rw [List.getElem?_set_self hkh] at h1
       rw [List.getElem?_set_ne ej] at h2
       cases h1
       exact (key j h' ej h2 h4 h3).elim
   · by_cases ej : k = j
     · subst ej
       rw [List.getElem?_set_self hkh] at h2
       rw [List.getElem?_set_ne ei] at h1
       cases h2
       exact (key i h ei h1 h3 h4).elim
     · rw [List.getElem?_set_ne ei] at h1
       rw [List.getElem?_set_ne ej] at h2
       exact M.apart i j h h' g h1 h2 h3 h4
theorem OwnMat.grown (M : OwnMat w base e hs ls) {k n m : Nat} {A A' : Option Addr} {c c' : Nat} {l' : List Int} {xs : List Value} (hk : hs[k]? = some (A, c)) (hkl : k < ls.length) (hown : w'.ownsRow base e 1 (.slice A' n c') n xs) (hn : n = l'.length) (hx : xs = ints l')
 (hg : w.grownBy w' (Value.slice A m c).ownBlock) (hat : (Value.slice A' n c').ownBlock = (Value.slice A m c).ownBlock ∨ (Value.slice A' n c').ownBlock = some w.heap.size) : OwnMat w' base e (hs.set k (A', c')) (ls.set k l') := by
 subst hn hx
 have e1 : (Value.slice A m c).ownBlock = (hdr (A, c) l').ownBlock := by cases A <;> rfl
 rw [e1] at hg hat
 exact M.grow hk hkl hown hg hat
/-- They can be read. -/
theorem OwnMat.rd {G : Nat} {t : TypeId} (M : OwnMat w base e hs ls) (hG : Blk w G t ⟨hdrs hs ls⟩) {S : Nat → Prop} (hSG : S G) (hS : ∀ b, base ≤ b → b < w.heap.size → S b) : RdL rowShape w S (some ⟨G, 0, none⟩) ls := by
 refine ⟨hs, M.len, ?_, fun k l h h1 h2 => ?_⟩
 · have e : rowShape.cells ls hs = hdrs hs ls := by
    unfold Shape.cells hdrs rowShape
    simp only
    have hl := M.len
    clear M hG
    induction ls generalizing hs with
    | nil => simp
    | cons l ls ih =>
      cases hs with
      | nil => simp at hl
      | cons h hs =>
        simp only [List.zip_cons_cons, List.flatMap_cons, List.zipWith_cons_cons, List.cons_append, List.nil_append]
        rw [ih (by simpa using hl)]
   rw [e]
   exact ⟨by rw [hdrs_len M.len]; exact (Nat.mul_one _).symm, fun _ => ⟨G, 0, rfl, hSG, fun j u hu => by rw [Nat.zero_add, hG.cell]; simpa using hu⟩⟩
 · have ho := M.own k h l h2 h1
   obtain ⟨A, c⟩ := h
   refine ⟨by simp [ints], fun hn => ?_⟩
   rcases ho.2 with ⟨hv, hn0⟩ | ⟨g, cap, cur, hv, hb, hh, _⟩
   · omega
   · cases hv
     refine ⟨g, 0, rfl, hS g hb (Array.getElem?_eq_some_iff.1 hh).1, fun j u hu => ?_⟩
     have := ho.cells (g := g) rfl j u hu
     have e1 : (⟨g, 0, none⟩ : Addr).add j = ⟨g, 0 + j, none⟩ := by
      unfold Addr.add
      by_cases hj : j = 0 <;> simp [hj]
     rwa [e1] at this
end
end Go.Proofs.YtjjmpfmhggcjiaaGreatDoor
namespace Go.Proofs.YtjjmpfmhggcjiaaGreatDoor
open Go.RowKit Go.Maps
theorem infoWr : (Tryz.prog.info? 126).map (·.size) = some 2 := by kernel_rfl
theorem liesWr : liesAt Tryz.prog (Tryz.prog).depth 128 (2 / (Tryz.prog).cellsOf 128) 0 126 1 = true := by kernel_rfl
theorem infoByteW : (Tryz.prog.info? 5).map (fun i => (i.zero, i.size, i.bytes)) = some (some (.int .u8 0), 1, 1) := by kernel_rfl
theorem cellsByteW : (Tryz.prog).cellsOf 5 = 1 := by kernel_rfl
/-- A writer that holds these bytes. -/
def WrAt (B b : Nat) (p : Value) (bs : List Value) (w : World) : Prop := Lib.BuilderAt 128 5 B b p bs w
/-- A block that holds no bytes. -/
def NotU8 (w : World) (g : Nat) : Prop := ∀ cs fz, w.heap[g]? ≠ some (.cells cs 5 fz)
/-- What lies beside a writer's own block and its bytes stays. -/
structure KeepsWr (b : Nat) (w w' : World) : Prop where
 size : w.heap.size ≤ w'.heap.size
 keep : ∀ g, g < w.heap.size → g ≠ b → NotU8 w g → w'.heap[g]? = w.heap[g]?
theorem KeepsWr.refl (b : Nat) (w : World) : KeepsWr b w w := ⟨Nat.le_refl _, fun _ _ _ _ => rfl⟩
theorem KeepsWr.trans {b : Nat} {w w1 w2 : World} (h : KeepsWr b w w1) (h2 : KeepsWr b w1 w2) : KeepsWr b w w2 := by
 refine ⟨Nat.le_trans h.size h2.size, fun g hg hb hn => ?_⟩
 have e := h.keep g hg hb hn
 have hs := h.size
 exact (h2.keep g (by omega) hb (fun cs fz e2 => hn cs fz (by rw [← e]; exact e2))).trans e
theorem KeepsWr.below {b : Nat} {w w' : World} (h : Below w.heap.size w w') : KeepsWr b w w' := ⟨h.size, fun g hg _ _ => h.block g hg⟩
theorem KeepsWr.drew {b : Nat} {w w' : World} (h : KeepsWr b w w') : KeepsWr b w w'.drew := ⟨h.size, h.keep⟩
set_option maxHeartbeats 1000000 in
set_option maxRecDepth 100000 in
theorem wrCheck_used (b : Nat) (w : World) (h0 : w.cell? ⟨b, 0, none⟩ = some (.pointer (some ⟨b, 0, none⟩))) :
 Calls Tryz.prog 103 #[.pointer (some ⟨b, 0, none⟩)] w fun e w' => e = .returned (.tuple #[]) ∧ w' = w := by
 obtain ⟨j, hj, _⟩ := Option.map_eq_some_iff.1 infoWr
 go_enter Tryz.func103, Tryz.ntmps103
 go_wp2
 rw [Lib.run_neq_ptr_same w _ Tryz.underlying123 hj]
 go_wp2
 go_end0
 exact ⟨rfl, rfl⟩
set_option maxHeartbeats 1000000 in
set_option maxRecDepth 100000 in
theorem wrCheck_fresh (b : Nat) (w : World) (h0 : w.cell? ⟨b, 0, none⟩ = some (.pointer none)) (hsh : w.shape? b = some (128, 2)) (hfz : w.frozen? ⟨b, 0, none⟩ = false) :
 Calls Tryz.prog 103 #[.pointer (some ⟨b, 0, none⟩)] w fun e w' => e = .returned (.tuple #[]) ∧ w' = w.setCell ⟨b, 0, none⟩ (.pointer (some ⟨b, 0, none⟩)) := by
 obtain ⟨j, hj, hjs⟩ := Option.map_eq_some_iff.1 infoWr
 go_enter Tryz.func103, Tryz.ntmps103
 go_wp2
 rw [Lib.run_to_unsafe w ⟨b, 0, none⟩ Tryz.underlying123 Tryz.underlying226 hj (by rw [hjs]; decide) hsh (Nat.zero_lt_succ 1)]
 simp only [Result.andThen]
 rw [Oper.upon_value]
 go_wp2
 rw [run_callFunc_extern Tryz.func146 (by kernel_rfl) (by kernel_rfl) (by kernel_rfl) (e := Extern.AbiNoEscape.same) (by kernel_rfl)]
 rw [Lib.run_noEscape]
 simp only [Result.andThen]
 rw [Oper.upon_value]
 go_wp2
 rw [Lib.run_from_unsafe w ⟨b, 0, none⟩ Tryz.underlying226 Tryz.underlying123 hj hsh liesWr]
 simp only [Result.andThen]
 rw [Oper.upon_value]
 go_wp2
 go_end0
 exact ⟨rfl, rfl⟩
theorem wrCheck (B b : Nat) (p : Value) (bs : List Value) (w : World) (hp : p = .pointer none ∨ p = .pointer (some ⟨b, 0, none⟩)) (h : WrAt B b p bs w) :
 Calls Tryz.prog 103 #[.pointer (some ⟨b, 0, none⟩)] w fun e w' => e = .returned (.tuple #[]) ∧ (WrAt B b (.pointer (some ⟨b, 0, none⟩)) bs w' ∧ Below B w w' ∧ KeepsWr b w w') := by
 unfold WrAt at h
 rcases hp with rfl | rfl
 · refine (wrCheck_fresh b w h.cell0 h.shape h.frozen0).mono ?_
   rintro e w' ⟨rfl, rfl⟩
   exact ⟨rfl, h.used _, (Below.refl B w).setCell (p := ⟨b, 0, none⟩) h.1 _, ⟨by simp, fun g hg hb _ => Below.heap_setCell _ _ _ _ hb⟩⟩
 · refine (wrCheck_used b w h.cell0).mono ?_
   rintro e w' ⟨rfl, rfl⟩
   exact ⟨rfl, h, Below.refl B _, KeepsWr.refl _ _⟩
set_option maxHeartbeats 2000000 in
set_option maxRecDepth 100000 in
theorem wrString (B b : Nat) (p : Value) (bs : List Value) (s : ByteArray) (w : World) (hp : p = .pointer none ∨ p = .pointer (some ⟨b, 0, none⟩)) (h : WrAt B b p bs w) (hlen : bs.length + s.size ≤ 140737488355328) (hBw : B ≤ w.heap.size) :
 Calls Tryz.prog 56 #[.pointer (some ⟨b, 0, none⟩), .string s] w fun e w' => e = .returned (.tuple #[.int .i64 s.size, .nilIface]) ∧ (WrAt B b (.pointer (some ⟨b, 0, none⟩)) (bs ++ Lib.strCells s) w' ∧ Below B w w' ∧ KeepsWr b w w') := by
 obtain ⟨i0, hi, hz0, hz1, hz2⟩ := info_parts infoByteW
 have HC := Lib.hid (wrCheck B b p bs w hp h)
 go_enter Tryz.func56, Tryz.ntmps56
 go_wp2_with fail
 refine HC.out.mono ?_
 rintro e w1 ⟨rfl, h1, hb1, hk1⟩
 obtain ⟨hB, v, hbk, hown, hne⟩ := h1
 have c0 : w1.cell? ⟨b, 0, none⟩ = some (.pointer (some ⟨b, 0, none⟩)) := by rw [Lib.cell_of_heap hbk]; rfl
 have c1 : w1.cell? ⟨b, 1, none⟩ = some v := by rw [Lib.cell_of_heap hbk]; rfl
 go_wp2_with (at_builtin; refine Lib.wpList_append_own_string _ rfl _ _ 124 9 rfl B 5 i0 Tryz.underlying124 Tryz.underlying9 hi hz0 hz1 hz2 _ _ _ rfl hown s rfl ?c3 ?c4 ?c5 ?_)
 case c3 => unfold maxLen; omega
 case c4 => omega
 case c5 => have := hb1.size; omega
 intro v' w2 hown' hgrow _
 have hlt : b < w1.heap.size := by
  rcases Nat.lt_or_ge b w1.heap.size with h' | h'
  · exact h'
  · simp [Array.getElem?_eq_none h'] at hbk
 have hb2 : w2.heap[b]? = some (.cells #[.pointer (some ⟨b, 0, none⟩), v] 128 (0, 0)) := by
  rw [hgrow.block b hlt (fun e => hne e.symm)]
  exact hbk
 have d0 : w2.cell? ⟨b, 0, none⟩ = some (.pointer (some ⟨b, 0, none⟩)) := by rw [Lib.cell_of_heap hb2]; rfl
 have d1 : w2.cell? ⟨b, 1, none⟩ = some v := by rw [Lib.cell_of_heap hb2]; rfl
 have f1 : w2.frozen? ⟨b, 1, none⟩ = false := Lib.frozen_of_heap hb2 1
 obtain ⟨ao, n', cap, rfl⟩ : ∃ ao n' cap, v' = .slice ao n' cap := by
  rcases hown'.2 with ⟨hv, _⟩ | ⟨g, cap, cur, hv, _⟩
  · exact ⟨_, _, _, hv⟩
  · exact ⟨_, _, _, hv⟩
 go_wp2
 go_ret2
 refine ⟨rfl, ?_, ?_, ?_⟩
 · exact Lib.BuilderAt.put (T := 128) (e := 5) hB hb2 (bs' := bs ++ Lib.strCells s) (by simpa [Lib.strCells_length] using hown') (by decide)
 · exact (hb1.grown hgrow (by have := hb1.size; omega) (fun k hk => (hown.lt k hk).1)).setCell (p := ⟨b, 1, none⟩) hB _
 · refine hk1.trans ⟨by simp; exact hgrow.size, fun g hg hb hn => ?_⟩
   refine (Below.heap_setCell _ _ _ _ hb).trans (hgrow.block g hg (fun e => ?_))
   rcases hown.2 with ⟨hv, _⟩ | ⟨g', cap, cur, hv, _, hcur, _⟩
   · rw [hv] at e
     cases e
   · rw [hv] at e
     cases e
     exact hn _ _ hcur
set_option maxHeartbeats 1000000 in
set_option maxRecDepth 100000 in
theorem wrText (B b : Nat) (p : Value) (l : List UInt8) (w : World) (h : WrAt B b p (Lib.byteCells l) w) (h0 : l ≠ []) :
 Calls Tryz.prog 59 #[.pointer (some ⟨b, 0, none⟩)] w fun e w' => e = .returned (.string ⟨l.toArray⟩) ∧ Below B w w' := by
 have mixed : Tryz.prog.follows .mixedOrders = true := by kernel_rfl
 obtain ⟨hB, v, hbk, hown, hne⟩ := h
 have hl0 : l.length ≠ 0 := by simpa using h0
 rw [Lib.byteCells_length] at hown
 obtain ⟨g, cap, cur, rfl, hbg, hg, hnc, hcm, hcs, htake⟩ : ∃ g cap cur, v = .slice (some ⟨g, 0, none⟩) l.length cap ∧ B ≤ g ∧ w.heap[g]? = some (.cells cur 5 (0, 0)) ∧ l.length ≤ cap ∧ cap ≤ maxLen ∧ cur.size = cap * 1 ∧ cur.toList.take (l.length * 1) = Lib.byteCells l := by
  rcases hown.2 with ⟨_, hz⟩ | ⟨g, cap, cur, hv, r⟩
  · exact absurd hz hl0
  · exact ⟨g, cap, cur, hv, r⟩
 have c1 : w.drew.cell? ⟨b, 1, none⟩ = some (.slice (some ⟨g, 0, none⟩) l.length cap) := by
  have : w.drew.heap[b]? = some (.cells #[p, .slice (some ⟨g, 0, none⟩) l.length cap] 128 (0, 0)) := hbk
  rw [Lib.cell_of_heap this]; rfl
 have hSD : (Builtin.unsafeSliceData_ #[124] 181 #[.slice (some ⟨g, 0, none⟩) l.length cap]).run Tryz.prog w.drew = .ok (.pointer (some ⟨g, 0, none⟩)) w.drew :=
  Lib.run_unsafeSliceData_row _ _ _ _ _ _ (by omega)
 have hUS : (Builtin.unsafeString_ #[181, 3] 9 #[.pointer (some ⟨g, 0, none⟩), .int .i64 l.length]).run Tryz.prog w.drew = .ok (.string ⟨l.toArray⟩) (w.drew.freeze ⟨g, 0, none⟩ l.length) := by
  refine Lib.run_unsafeString_row w.drew 181 3 9 5 Tryz.underlying181 cellsByteW g cur.size (by have hg' : w.drew.heap[g]? = some (.cells cur 5 (0, 0)) := hg; simp [World.shape?, hg']) l h0 (by omega) (by unfold maxLen at hcm; omega) ?_
  intro j x hx
  have := hown.cells (g := g) rfl j (.int .u8 x.toNat) (by simp [Lib.byteCells, hx])
  exact this
 go_enter Tryz.func59, Tryz.ntmps59
 go_wp2
 go_region_o
 all_goals (go_wp2; go_ret; exact ⟨rfl, Lib.below_freeze (Below.drew (Below.refl B w)) (p := ⟨g, 0, none⟩) hbg _⟩)
end Go.Proofs.YtjjmpfmhggcjiaaGreatDoor
