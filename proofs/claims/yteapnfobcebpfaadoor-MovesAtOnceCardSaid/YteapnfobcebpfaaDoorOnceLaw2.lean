/-
  MovesAtOnce, the plain law: what its last loops find.
-/
import Derived.Test.YteapnfobcebpfaaDoorOnceLaw
namespace Go.Proofs.YteapnfobcebpfaaDoor
open Go.RowKit Go.Maps Mov

def usF (o : List Mv) (sp : Int) (k : Nat) : Bool := (o.take k).any fun m => m.1 == sp
theorem usF_succ {o : List Mv} {sp : Int} {k : Nat} (hk : k < o.length) : usF o sp (k + 1) = (usF o sp k || toAt o k == sp) := by
  unfold usF
  rw [take_mv hk, List.any_append]
  simp
theorem hasK_all (l : List Mv) (x : Int) : hasK l l.length x = decide (∃ p ∈ l, p.1 = x) := by
  unfold hasK
  rw [List.take_of_length_le (by simp [keys]), decide_eq_decide]
  unfold keys
  rw [List.mem_map]
theorem once_facts {l : List Mv} {sp : Int} (hl : l.length ≤ 500) (hI : ixF l sp l.length = false) (hS : shF l sp l.length = false) (hT : twF l l.length = false) :
    orderBad l sp = 0 ∧ (orderF l sp).length = roundsF l + (nonTriv l).length ∧ cyclesF l = roundsF l ∧ (∀ k, k < l.length → atF (haveF (orderF l sp) []) (toAt l k) = frAt l k) ∧
    (∀ q ∈ haveF (orderF l sp) [], (q.1 == sp || hasK l l.length q.1) = true) ∧ (∀ x : Int, (x == sp || hasK l l.length x) = false → atF (haveF (orderF l sp) []) x = x) ∧
    usF (orderF l sp) sp (orderF l sp).length = decide (0 < roundsF l) ∧ (orderF l sp).length ≤ 2 * l.length := by
  have hnod : (keys l).Nodup := twF_keys.1 hT
  have hsp : ∀ p ∈ l, p.1 ≠ sp ∧ p.2 ≠ sp := coll_not.1 (by unfold shF at hS; rwa [List.take_length] at hS)
  have hm0 : mayF l = 0 := by rw [may_tw hl hI, hT]; rfl
  have hc := cycles_eq hnod
  have hlen := (phase2 hnod hsp).2
  refine ⟨by rw [bad_sh hl hI, hS, hT]; rfl, by rw [hlen, hc]; omega, by unfold cyclesF; rw [if_pos hm0, hc], fun k hk => ?_, fun q hq => ?_, fun x hx => ?_, ?_, ?_⟩
  · rw [at_have]; exact order_does hnod hsp (at_mem hk)
  · rw [hasK_all]
    rcases keys_haveF (orderF l sp) [] q hq with ⟨m, hm, e⟩ | ⟨p, hp, _⟩
    · rcases order_tos hnod m hm with h | ⟨p, hp, e2⟩
      · rw [← e, h]; simp
      · have : decide (∃ p ∈ l, p.1 = q.1) = true := by simpa using ⟨p.2, by rw [← e, ← e2]; exact hp⟩
        rw [this, Bool.or_true]
    · cases hp
  · rw [Bool.or_eq_false_iff, hasK_all] at hx
    rw [at_have]
    exact order_leaves hnod hsp (by simpa using hx.1) (fun p hp e => by have := hx.2; simp at this; exact this p.2 (by rw [← e]; exact hp))
  · unfold usF
    rw [List.take_length, ← hc]
    have := order_used hnod hsp
    by_cases h : 0 < cycles l
    · obtain ⟨m, hm, e⟩ := this.2 h
      simp only [h, decide_true, List.any_eq_true]
      exact ⟨m, hm, by simp [e]⟩
    · simp only [h, decide_false, List.any_eq_false]
      intro m hm e
      exact h (this.1 ⟨m, hm, by simpa using e⟩)
  · have h1 := cycles_le l
    have h2 : (nonTriv l).length ≤ l.length := List.length_filter_le _ _
    omega
end Go.Proofs.YteapnfobcebpfaaDoor
