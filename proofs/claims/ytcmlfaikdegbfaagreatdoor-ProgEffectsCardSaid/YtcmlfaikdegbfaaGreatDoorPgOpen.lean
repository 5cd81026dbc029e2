/-
  Arguments that are slices of structs of one-cell fields, opened; slices of instructions.
-/
import Derived.Test.YtcmlfaikdegbfaaGreatDoorFrame
import Derived.Test.YtcmlfaikdegbfaaGreatDoorPgRd
import Derived.Deep.Slices
import Derived.Deep.Fields
import Derived.ChangeSame
namespace Go.Proofs.YtcmlfaikdegbfaaGreatDoor
open Go.ChangeShapes Go.WideShapes Go.Deep Go.RowKit

section
variable {H : Type} {enc : TypeId × Value → H} {P : Program} {w : World} {base : Nat} {spare : Nat → Bool} {held : Bool}
theorem open_slice_fields {t e : TypeId} {fs : Array Field} {fuel : Nat} {cs : List Value} {x : DataW H × List MemPlace} (ht : P.underlying t = some (.slice e)) (he : P.underlying e = some (.struct fs))
    (hone : oneCellFields P fs = true) (hC : P.cellsOf e = fs.size) (h : DataW.trod enc P w base spare held fuel t cs = some x) :
    (cs = [.slice none 0 0] ∧ x = (.nil, [])) ∨
    ∃ (a : Addr) (len cap m : Nat) (D : Nat → DataW H) (Pl : Nat → List MemPlace), cs = [.slice (some a) len cap] ∧ base ≤ a.block ∧ len ≤ cap ∧ cap ≤ maxLen ∧ m = (if spare a.block then cap else len) ∧
      x = (.slice ((List.range len).map D) ((List.range (m - len)).map fun j => D (len + j)), MemPlace.row a (m * fs.size) ++ (List.range m).flatMap Pl) ∧
      ∀ i, i < m → ∃ (ys : List (DataW H × List MemPlace)) (n : Nat), D i = .agg (ys.map (·.1)) ∧ Pl i = ys.flatMap (·.2) ∧ ys.length = fs.size ∧
        ∀ (j : Nat) (f : Field), fs[j]? = some f → ∃ (v : Value) (y : DataW H × List MemPlace), w.cell? (a.add (i * fs.size + j)) = some v ∧ ys[j]? = some y ∧ DataW.trod enc P w base spare held n f.type [v] = some y := by
  rcases open_slice ht h with h0 | ⟨a, len, cap, m, n, D, Pl, hcs, hb, hl, hm, hmm, hx, hi⟩
  · exact .inl h0
  · refine .inr ⟨a, len, cap, m, D, Pl, hcs, hb, hl, hm, hmm, by rw [hC] at hx; exact hx, fun i him => ?_⟩
    obtain ⟨cs', hc, ht'⟩ := hi i him
    rw [hC] at hc
    obtain ⟨ys, n', hn', hy, hlen, hyl, hf⟩ := DataW.trod_struct he ht'
    obtain ⟨_, hcl, hat⟩ := World.cells?_some hc
    simp only [Prod.mk.injEq] at hy
    refine ⟨ys, n', hy.1, hy.2, hyl, fun j f hj => ?_⟩
    obtain ⟨ho, hk⟩ := hone_of hone j f hj
    have hjl : j < fs.size := (Array.getElem?_eq_some_iff.1 hj).1
    have hcell := hat j hjl
    have hv : cs'[j]? = some (cs'[j]'(by omega)) := List.getElem?_eq_getElem (by omega)
    have h1 := hf j f hj
    rw [ho, hk] at h1
    have hone' : (cs'.drop j).take 1 = [cs'[j]'(by omega)] := by
      rw [List.drop_eq_getElem_cons (by omega)]
      rfl
    rw [hone'] at h1
    have hys : ys[j]? = some (ys[j]'(by omega)) := List.getElem?_eq_getElem (by omega)
    refine ⟨_, _, ?_, hys, h1.trans hys⟩
    rw [← Go.Deep.add_add, hcell, hv]
end

set_option maxRecDepth 100000 in
theorem open_ins_rd {H : Type} {enc : TypeId × Value → H} {W : World} {base : Nat} {v : Value} {d : DataW H} {p : List MemPlace}
    (hv : Value.okWide Tryz.prog W .any base 37 v) (h : DataW.Trod enc Tryz.prog W 0 (fun _ => true) true 37 v d p) :
    ∃ A c l, v = .slice A l.length c ∧ Rd W W.heap.size 4 A l.length (icells l) ∧ l.length ≤ 9223372036854775807 := by
  obtain ⟨a0, len, cap, rfl⟩ := okWide_slice Tryz.underlying37 hv
  obtain ⟨fuel, hf⟩ := h
  rcases open_slice_fields Tryz.underlying37 Tryz.underlying44 (by kernel_rfl) (by kernel_rfl) hf with ⟨hcs, _⟩ | ⟨a, len', cap', m, D, Pl, hcs, _, hl, hm, hz, _, hcell⟩
  · simp [Value.cells] at hcs
    obtain ⟨rfl, rfl, rfl⟩ := hcs
    exact ⟨none, 0, [], rfl, Rd.nil _ _ _ _, by decide⟩
  · simp [Value.cells] at hcs
    obtain ⟨rfl, rfl, rfl⟩ := hcs
    simp only [if_true] at hz
    subst hz
    have hg : ∀ i, ∃ q : Ins, i < m → W.cell? (a.add (i * 4)) = some (.int .i64 q.op) ∧ W.cell? (a.add (i * 4 + 1)) = some (.int .i64 q.a) ∧ W.cell? (a.add (i * 4 + 2)) = some (.int .i64 q.b) ∧ W.cell? (a.add (i * 4 + 3)) = some (.int .i64 q.n) := fun i => by
      by_cases hi : i < m
      · obtain ⟨ys, n, _, _, _, hj⟩ := hcell i hi
        obtain ⟨v0, y0, c0, _, t0⟩ := hj 0 _ rfl
        obtain ⟨v1, y1, c1, _, t1⟩ := hj 1 _ rfl
        obtain ⟨v2, y2, c2, _, t2⟩ := hj 2 _ rfl
        obtain ⟨v3, y3, c3, _, t3⟩ := hj 3 _ rfl
        obtain ⟨x0, e0, _, w0⟩ := DataW.trod_int Tryz.underlying3 t0
        obtain ⟨x1, e1, _, w1⟩ := DataW.trod_int Tryz.underlying3 t1
        obtain ⟨x2, e2, _, w2⟩ := DataW.trod_int Tryz.underlying3 t2
        obtain ⟨x3, e3, _, w3⟩ := DataW.trod_int Tryz.underlying2 t3
        obtain rfl : v0 = .int .i64 x0 := by simpa using e0
        obtain rfl : v1 = .int .i64 x1 := by simpa using e1
        obtain rfl : v2 = .int .i64 x2 := by simpa using e2
        obtain rfl : v3 = .int .i64 x3 := by simpa using e3
        exact ⟨⟨x0, x1, x2, x3⟩, fun _ => ⟨c0, c1, c2, c3⟩⟩
      · exact ⟨default, fun h => absurd h hi⟩
    obtain ⟨g, hg⟩ := Classical.skolem.1 hg
    have hlen : (icells ((List.range len).map g)).length = len * 4 := by
      unfold icells
      rw [flat_len icell 4 (fun _ => rfl)]
      simp
    refine ⟨some a, m, (List.range len).map g, by simp, ⟨by simpa using hlen, fun hn => ?_⟩, by unfold maxLen at hm; simp; omega⟩
    simp only [List.length_map, List.length_range] at hn
    obtain ⟨b, off, spot⟩ := a
    have hspot : spot = none := by simpa [Addr.add] using World.cell?_spot (hg 0 (by omega)).1
    subst hspot
    refine ⟨b, off, rfl, block_lt_of_cell (a := ⟨b, off + 0, none⟩) (by simpa [Addr.add] using (hg 0 (by omega)).1), fun j u hu => ?_⟩
    have hj : j < len * 4 := by
      have := (List.getElem?_eq_some_iff.1 hu).1
      rwa [hlen] at this
    have hj2 : j / 4 < len := by omega
    have hx : ((List.range len).map g)[j / 4]? = some (g (j / 4)) := by simp [hj2]
    have key := flat_at icell 4 (fun _ => rfl) ((List.range len).map g) (j / 4) (j % 4) _ hx (by omega)
    obtain ⟨q0, q1, q2, q3⟩ := hg (j / 4) (by omega)
    have ej : j / 4 * 4 + j % 4 = j := by omega
    rw [ej] at key
    have hu2 := hu.symm.trans key
    have h4 : j % 4 = 0 ∨ j % 4 = 1 ∨ j % 4 = 2 ∨ j % 4 = 3 := by omega
    rcases h4 with e | e | e | e
    · rw [e] at ej hu2
      rw [show j / 4 * 4 = j by omega, Go.WideShapes.add_plain] at q0
      rw [hu2]; exact q0
    · rw [e] at ej hu2
      rw [ej, Go.WideShapes.add_plain] at q1
      rw [hu2]; exact q1
    · rw [e] at ej hu2
      rw [ej, Go.WideShapes.add_plain] at q2
      rw [hu2]; exact q2
    · rw [e] at ej hu2
      rw [ej, Go.WideShapes.add_plain] at q3
      rw [hu2]; exact q3
end Go.Proofs.YtcmlfaikdegbfaaGreatDoor
