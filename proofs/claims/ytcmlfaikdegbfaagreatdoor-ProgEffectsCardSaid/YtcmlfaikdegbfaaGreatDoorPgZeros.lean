/-
  append(s, make([]T, k)...) onto a row of the call's own, of one-cell elements: whether there is room or not. (Of no program.)
-/
import Derived.Test.YtcmlfaikdegbfaaGreatDoorLib
import Derived.Lib.AppendZerosOnto
namespace Go.Proofs.YtcmlfaikdegbfaaGreatDoor
open Go.RowKit Go.Maps

theorem zeroCells_one (z0 : Value) (k : Nat) : (Builtin.zeroCells #[z0] k).toList = List.replicate k z0 := by
  apply List.ext_getElem
  · simp [Builtin.zeroCells]
  · intro i h1 h2
    simp [Builtin.zeroCells, Nat.mod_one]
theorem run_zeros_own {P : Program} (w : World) (base : Nat) (t tn ty e : TypeId) (i : TypeInfo) (z0 : Value) (kq kn : IntKind) (ht : P.underlying t = some (.slice e)) (htn : P.underlying tn = some (.int kn)) (hi : P.info? e = some i) (hz : i.zero = some z0)
    (hzc : z0.cells = #[z0]) (hs : i.size = 1) (g n cap : Nat) (xs : List Value) (hown : w.ownsRow base e 1 (.slice (some ⟨g, 0, none⟩) n cap) n xs) (k : Nat) (hk : 0 < k) (h1 : z0.oneCell' = true)
    (h63 : n + k ≤ maxLen) (hbytes : (n + k) * i.bytes ≤ 140737488355328) (hbase : base ≤ w.heap.size) :
    ∃ A' c' w', (Builtin.append_ #[t, tn] ty #[.slice (some ⟨g, 0, none⟩) n cap, .int kq k]).run P w = .ok (.slice A' (n + k) c') w' ∧ w'.ownsRow base e 1 (.slice A' (n + k) c') (n + k) (xs ++ List.replicate k z0) ∧ w.grownBy w' (some g) := by
  have hlen : (xs ++ List.replicate k z0).length = (n + k) * 1 := by rw [List.length_append, hown.1]; simp
  have hsmall : n + k ≤ 9223372036854775807 := by simp only [maxLen] at h63; omega
  have hone : k * i.bytes ≤ (n + k) * i.bytes := Nat.mul_le_mul_right _ (by omega)
  rcases hown.2 with ⟨h0, _⟩ | ⟨g', cap', cur, hv, hbg, hg, hnc, hcm, hcs, htake⟩
  · cases h0
  · cases hv
    by_cases hroom : n + k ≤ cap
    · have hst := run_storeCells_at P g (n * 1) e (List.replicate k z0) 0 cur w hg (by simp; omega) (by intro u hu; rw [List.eq_of_mem_replicate hu]; exact h1)
      simp only [Nat.add_zero] at hst
      have hw : IntKind.i64.wrap (k : Int) = k := by rw [IntKind.wrap_i64]; omega
      have h48i : ¬ (281474976710656 < (k : Int) * (i.bytes : Int)) := by
        rw [← Int.natCast_mul]
        omega
      have hns : ¬ k = 0 := by omega
      have hneg : ¬ ((k : Int) < 0) := by omega
      refine ⟨some ⟨g, 0, none⟩, cap, w.setRow g (cur.toList.take (n * 1) ++ List.replicate k z0 ++ cur.toList.drop (n * 1 + (List.replicate k z0).length)).toArray, ?_, ⟨hlen, .inr ⟨g, cap, _, rfl, hbg, setRow_heap w g cur _ e _ hg, hroom, hcm, ?_, ?_⟩⟩, ⟨rfl, rfl, rfl, by simp, fun j _ hj => setRow_other w g j _ (fun e => hj (by rw [e]))⟩⟩
      · have hzl : (Builtin.zeroCells z0.cells k).toList = List.replicate k z0 := by rw [hzc]; exact zeroCells_one z0 k
        simp only [Nat.mul_one] at hst ⊢
        simp [Builtin.append_, run_underlying ht, run_underlying htn, sizeOf, typeInfo, zeroValue, hi, hz, hs, asInt, asIntOf, hw, h48i, hns, hneg, hroom, hzl, Addr.add_lit, hst]
      · simp only [List.size_toArray, List.length_append, List.length_take, List.length_drop, Array.length_toList, List.length_replicate]
        omega
      · rw [htake, ← hlen]
        exact List.take_left
    · have holds : ∀ j u, xs[j]? = some u → w.cell? ((⟨g, 0, none⟩ : Addr).add j) = some u := hown.cells (g := g) rfl
      have hfit := growslice_fits (need := n + k) (old := cap) (by omega) hbytes
      have hfc := run_firstCells_some (P := P) w.drew i.size n ⟨g, 0, none⟩ n cap xs (by rw [hs]; exact hown.1) holds
      have hr := Lib.run_append_grow_zeros (P := P) w t tn ty e i z0 kq kn ht htn hi hz (some ⟨g, 0, none⟩) n cap xs hfc k hk (by omega) (by omega) (by omega) (by omega) hfit
      have hge := grownCap_ge w (n + k) cap e
      have hcmx : grownCap w (n + k) cap e ≤ maxLen := grownCap_le_maxLen w (n + k) cap e h63
      refine ⟨_, _, _, hr, ⟨hlen, .inr ⟨w.heap.size, _, _, rfl, hbase, heap_alloc_new w.drew _, hge, hcmx, ?_, ?_⟩⟩, ⟨rfl, rfl, rfl, by simp, fun j hj _ => heap_alloc_old w.drew _ hj⟩⟩
      · simp only [Array.size_append, List.size_toArray, size_zeroCells, hzc, hown.1]
        simp
        omega
      · simp only [Array.toList_append, List.append_assoc, hzc, zeroCells_one]
        rw [← List.append_assoc, ← hlen]
        exact List.take_left
end Go.Proofs.YtcmlfaikdegbfaaGreatDoor
