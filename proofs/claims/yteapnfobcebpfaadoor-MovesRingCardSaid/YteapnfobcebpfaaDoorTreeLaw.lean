/-
  The plain law of a tree of moves: no rings.
-/
import Derived.Test.YteapnfobcebpfaaDoorRings
namespace Go.Proofs.YteapnfobcebpfaaDoor.Mov

theorem no_fall {es : List Mv} (hp : (vals es).Perm (keys es)) (hlow : ∀ p ∈ es, 0 ≤ p.2 ∧ p.2 < p.1) : es = [] := by
  have key : ∀ (n : Nat) (p : Mv), p ∈ es → p.1 ≤ n → False := by
    intro n
    induction n with
    | zero => intro p hp1 hn; have := hlow p hp1; omega
    | succ n ih =>
      intro p hp1 hn
      have h1 := hlow p hp1
      have h2 : p.2 ∈ keys es := hp.mem_iff.1 (List.mem_map.2 ⟨p, hp1, rfl⟩)
      obtain ⟨q, hq, e⟩ := List.mem_map.1 h2
      exact ih q hq (by omega)
  apply List.eq_nil_iff_forall_not_mem.2
  intro p hp1
  have h1 := hlow p hp1
  exact key p.1.toNat p hp1 (by omega)
theorem cycF_nil : ∀ todo, cycF todo [] = 0
  | [] => rfl
  | t :: r => by
    unfold cycF
    exact cycF_nil r
theorem cycles_fall {l : List Mv} (hl : (keys l).Nodup) (hlow : ∀ p ∈ l, 0 ≤ p.2 ∧ p.2 < p.1) : cycles l = 0 := by
  have h1 := phase1 hl
  have : restF l = [] := no_fall h1.perm (fun p hp => hlow p (mem_nonTriv.1 (h1.sub p hp)).1)
  unfold cycles
  rw [this, cycF_nil]
theorem nonTriv_fall {l : List Mv} (hlow : ∀ p ∈ l, 0 ≤ p.2 ∧ p.2 < p.1) : nonTriv l = l := by
  unfold nonTriv
  rw [List.filter_eq_self]
  intro p hp
  have := hlow p hp
  simp; omega

/-- Where the i-th place of a tree has it from. -/
def trM (fr : List Int) (i : Nat) : Int := ((fr[i]?.getD 0).tmod ((i : Int) + 1) + i + 1) % ((i : Int) + 1)
def treeL (fr : List Int) (n : Nat) : List Mv := (List.range n).map fun i : Nat => ((i : Int) + 1, trM fr i)
theorem trM_low (fr : List Int) (i : Nat) : 0 ≤ trM fr i ∧ trM fr i < (i : Int) + 1 := by
  unfold trM
  exact ⟨Int.emod_nonneg _ (by omega), Int.emod_lt_of_pos _ (by omega)⟩
theorem tree_mem {fr : List Int} {n : Nat} {p : Mv} (h : p ∈ treeL fr n) : 0 ≤ p.2 ∧ p.2 < p.1 ∧ p.1 ≤ n := by
  obtain ⟨i, hi, rfl⟩ := List.mem_map.1 h
  have := List.mem_range.1 hi
  have := trM_low fr i
  simp only
  omega
theorem tree_len (fr : List Int) (n : Nat) : (treeL fr n).length = n := by simp [treeL]
theorem tree_nod (fr : List Int) (n : Nat) : (keys (treeL fr n)).Nodup := by
  unfold keys treeL
  rw [List.map_map]
  refine List.Pairwise.map _ (fun a b hab => ?_) List.nodup_range
  simp only [Function.comp]
  omega
theorem tree_succ (fr : List Int) (n : Nat) : treeL fr (n + 1) = treeL fr n ++ [((n : Int) + 1, trM fr n)] := by
  unfold treeL
  rw [List.range_succ, List.map_append]
  rfl
end Go.Proofs.YteapnfobcebpfaaDoor.Mov
