/-
  Arguments that are programs, opened.
-/
import Derived.Test.YtcmlfaikdegbfaaGreatDoorPgOpen
import Derived.Lib.SmallJoins
namespace Go.Proofs.YtcmlfaikdegbfaaGreatDoor
open Go.ChangeShapes Go.WideShapes Go.Deep Go.RowKit Go.Joins

theorem rd_mk {α : Type} {W : World} {a : Addr} (g : α → List Value) (s : Nat) (hs : 0 < s) (hg : ∀ x, (g x).length = s) (f : Nat → α) (len : Nat)
    (hc : ∀ i, i < len → ∀ j u, (g (f i))[j]? = some u → W.cell? (a.add (i * s + j)) = some u) : Rd W W.heap.size s (some a) len (((List.range len).map f).flatMap g) := by
  refine ⟨by rw [flat_len g s hg]; simp, fun hn => ?_⟩
  have h0 : (g (f 0))[0]? = some ((g (f 0))[0]'(by rw [hg]; exact hs)) := List.getElem?_eq_getElem _
  have hc0 := hc 0 hn 0 _ h0
  obtain ⟨b, off, spot⟩ := a
  have hspot : spot = none := by simpa [Addr.add] using World.cell?_spot hc0
  subst hspot
  refine ⟨b, off, rfl, block_lt_of_cell (a := ⟨b, off + 0, none⟩) (by simpa [Addr.add] using hc0), fun j u hu => ?_⟩
  have hj : j < len * s := by
    have := (List.getElem?_eq_some_iff.1 hu).1
    rw [flat_len g s hg] at this
    simpa using this
  have hjs : j / s < len := by rwa [Nat.div_lt_iff_lt_mul hs]
  have hx : ((List.range len).map f)[j / s]? = some (f (j / s)) := by simp [hjs]
  have key := flat_at g s hg _ (j / s) (j % s) _ hx (Nat.mod_lt _ hs)
  have ej : j / s * s + j % s = j := Nat.div_add_mod' j s
  rw [ej] at key
  have := hc (j / s) hjs (j % s) u (key.symm.trans hu)
  rwa [ej, Go.WideShapes.add_plain] at this

section
variable {H : Type} {enc : TypeId × Value → H} {W : World}
set_option maxRecDepth 100000 in
theorem open_ins_at {cs : List Value} {n : Nat} {x : DataW H × List MemPlace} (h : DataW.trod enc Tryz.prog W 0 (fun _ => true) true n 37 cs = some x) :
    ∃ (A : Option Addr) (c : Nat) (l : List Ins), cs = [.slice A l.length c] ∧ Rd W W.heap.size 4 A l.length (icells l) ∧ l.length ≤ 9223372036854775807 := by
  rcases open_slice_fields Tryz.underlying37 Tryz.underlying44 (by kernel_rfl) (by kernel_rfl) h with ⟨hcs, _⟩ | ⟨a, len', cap', m, D, Pl, hcs, _, hl, hm, hz, _, hcell⟩
  · exact ⟨none, 0, [], hcs, Rd.nil _ _ _ _, by decide⟩
  · simp only [if_true] at hz
    subst hz
    have hg : ∀ i, ∃ q : Ins, i < m → W.cell? (a.add (i * 4)) = some (.int .i64 q.op) ∧ W.cell? (a.add (i * 4 + 1)) = some (.int .i64 q.a) ∧ W.cell? (a.add (i * 4 + 2)) = some (.int .i64 q.b) ∧ W.cell? (a.add (i * 4 + 3)) = some (.int .i64 q.n) := fun i => by
      by_cases hi : i < m
      · obtain ⟨ys, n, _, _, _, hj⟩ := hcell i hi
        obtain ⟨v0, y0, c0, _, t0⟩ := hj 0 _ rfl
        obtain ⟨v1, y1, c1, _, t1⟩ := hj 1 _ rfl
        obtain ⟨v2, y2, c2, _, t2⟩ := hj 2 _ rfl
        obtain ⟨v3, y3, c3, _, t3⟩ := hj 3 _ rfl
        obtain ⟨x0, e0, _, w0⟩ := DataW.trod_int Tryz.underlying3 t0
        obtain ⟨x1, e1, _, w1⟩ := DataW.trod_int Tryz.underlying3 t1
        obtain ⟨x2, e2, _, w2⟩ := DataW.trod_int Tryz.underlying3 t2
        obtain ⟨x3, e3, _, w3⟩ := DataW.trod_int Tryz.underlying2 t3
        obtain rfl : v0 = .int .i64 x0 := by simpa using e0
        obtain rfl : v1 = .int .i64 x1 := by simpa using e1
        obtain rfl : v2 = .int .i64 x2 := by simpa using e2
        obtain rfl : v3 = .int .i64 x3 := by simpa using e3
        exact ⟨⟨x0, x1, x2, x3⟩, fun _ => ⟨c0, c1, c2, c3⟩⟩
      · exact ⟨default, fun h => absurd h hi⟩
    obtain ⟨g, hg⟩ := Classical.skolem.1 hg
    refine ⟨some a, m, (List.range len').map g, by simpa using hcs, ?_, by unfold maxLen at hm; simp; omega⟩
    have hrd := rd_mk (W := W) (a := a) icell 4 (by omega) (fun _ => rfl) g len' (fun i hi j u hu => ?_)
    · unfold icells
      simpa using hrd
    obtain ⟨q0, q1, q2, q3⟩ := hg i (by omega)
    match j with
    | 0 => rw [← hu]; exact q0
    | 1 => rw [← hu]; exact q1
    | 2 => rw [← hu]; exact q2
    | 3 => rw [← hu]; exact q3
    | j + 4 => simp [icell] at hu

theorem open_cls_at {cs : List Value} {n : Nat} {x : DataW H × List MemPlace} (h : DataW.trod enc Tryz.prog W 0 (fun _ => true) true n 22 cs = some x) :
    ∃ (A : Option Addr) (c : Nat) (l : List ByteArray), cs = [.slice A l.length c] ∧ Rd W W.heap.size 1 A l.length (l.map Value.string) ∧ l.length ≤ 9223372036854775807 ∧ ∀ s ∈ l, s.size ≤ 9223372036854775807 := by
  rcases open_slice_fields Tryz.underlying22 Tryz.underlying50 (by kernel_rfl) (by kernel_rfl) h with ⟨hcs, _⟩ | ⟨a, len', cap', m, D, Pl, hcs, _, hl, hm, hz, _, hcell⟩
  · exact ⟨none, 0, [], hcs, Rd.nil _ _ _ _, by decide, by simp⟩
  · simp only [if_true] at hz
    subst hz
    have hg : ∀ i, ∃ q : ByteArray, q.size ≤ 9223372036854775807 ∧ (i < m → W.cell? (a.add (i * 1)) = some (.string q)) := fun i => by
      by_cases hi : i < m
      · obtain ⟨ys, n, _, _, _, hj⟩ := hcell i hi
        obtain ⟨v0, y0, c0, _, t0⟩ := hj 0 _ rfl
        obtain ⟨x0, e0, _, w0⟩ := DataW.trod_string Tryz.underlying9 t0
        obtain rfl : v0 = .string x0 := by simpa using e0
        exact ⟨x0, by unfold maxLen at w0; omega, fun _ => c0⟩
      · exact ⟨⟨#[]⟩, by decide, fun h => absurd h hi⟩
    obtain ⟨g, hg⟩ := Classical.skolem.1 hg
    refine ⟨some a, m, (List.range len').map g, by simpa using hcs, ?_, by unfold maxLen at hm; simp; omega, fun s hs => ?_⟩
    · have hrd := rd_mk (W := W) (a := a) (fun s : ByteArray => [Value.string s]) 1 (by omega) (fun _ => rfl) g len' (fun i hi j u hu => by
        have q0 := (hg i).2 (by omega)
        match j with
        | 0 => rw [← hu]; exact q0
        | j + 1 => simp at hu)
      have e : ∀ l : List ByteArray, l.flatMap (fun s => [Value.string s]) = l.map Value.string := fun l => by induction l <;> simp_all
      rw [e] at hrd
      simpa using hrd
    · obtain ⟨i, _, rfl⟩ := List.mem_map.1 hs
      exact (hg i).1

theorem mok_default : MOk default := ⟨by decide, by decide, by decide, by decide⟩
set_option maxRecDepth 100000 in
theorem open_mth_at {cs : List Value} {n : Nat} {x : DataW H × List MemPlace} (h : DataW.trod enc Tryz.prog W 0 (fun _ => true) true n 23 cs = some x) :
    ∃ (A : Option Addr) (c : Nat) (l : List Mth), cs = [.slice A l.length c] ∧ RdMs W W.heap.size A l ∧ l.length ≤ 9223372036854775807 ∧ ∀ m ∈ l, MOk m := by
  rcases open_slice_fields Tryz.underlying23 Tryz.underlying39 (by kernel_rfl) (by kernel_rfl) h with ⟨hcs, _⟩ | ⟨a, len', cap', m, D, Pl, hcs, _, hl, hm, hz, _, hcell⟩
  · exact ⟨none, 0, [], hcs, ⟨[], rfl, Rd.nil _ _ _ _, fun k m h e => by simp at e⟩, by decide, by simp⟩
  · simp only [if_true] at hz
    subst hz
    have hg : ∀ i, ∃ q : Mth × (Option Addr × Nat), MOk q.1 ∧ (i < m → W.cell? (a.add (i * 4)) = some (.string q.1.pa) ∧ W.cell? (a.add (i * 4 + 1)) = some (.string q.1.lo) ∧ W.cell? (a.add (i * 4 + 2)) = some (.string q.1.re) ∧
        W.cell? (a.add (i * 4 + 3)) = some (.slice q.2.1 q.1.code.length q.2.2) ∧ Rd W W.heap.size 4 q.2.1 q.1.code.length (icells q.1.code)) := fun i => by
      by_cases hi : i < m
      · obtain ⟨ys, n, _, _, _, hj⟩ := hcell i hi
        obtain ⟨v0, y0, c0, _, t0⟩ := hj 0 _ rfl
        obtain ⟨v1, y1, c1, _, t1⟩ := hj 1 _ rfl
        obtain ⟨v2, y2, c2, _, t2⟩ := hj 2 _ rfl
        obtain ⟨v3, y3, c3, _, t3⟩ := hj 3 _ rfl
        obtain ⟨x0, e0, _, w0⟩ := DataW.trod_string Tryz.underlying9 t0
        obtain ⟨x1, e1, _, w1⟩ := DataW.trod_string Tryz.underlying9 t1
        obtain ⟨x2, e2, _, w2⟩ := DataW.trod_string Tryz.underlying9 t2
        obtain ⟨A3, c3', l3, e3, r3, h3⟩ := open_ins_at t3
        obtain rfl : v0 = .string x0 := by simpa using e0
        obtain rfl : v1 = .string x1 := by simpa using e1
        obtain rfl : v2 = .string x2 := by simpa using e2
        obtain rfl : v3 = .slice A3 l3.length c3' := by simpa using e3
        unfold maxLen at w0 w1 w2
        exact ⟨(⟨x0, x1, x2, l3⟩, (A3, c3')), ⟨by simpa using w0, by simpa using w1, by simpa using w2, h3⟩, fun _ => ⟨c0, c1, c2, c3, r3⟩⟩
      · exact ⟨(default, (none, 0)), mok_default, fun h => absurd h hi⟩
    obtain ⟨g, hg⟩ := Classical.skolem.1 hg
    refine ⟨some a, m, (List.range len').map fun i => (g i).1, by simpa using hcs, ⟨(List.range len').map fun i => (g i).2, by simp, ?_, fun k m' h' e1 e2 => ?_⟩, by unfold maxLen at hm; simp; omega, fun m' hm' => ?_⟩
    · have hrd := rd_mk (W := W) (a := a) mcell 4 (by omega) (fun _ => rfl) g len' (fun i hi j u hu => by
        obtain ⟨q0, q1, q2, q3, _⟩ := (hg i).2 (by omega)
        match j with
        | 0 => rw [← hu]; exact q0
        | 1 => rw [← hu]; exact q1
        | 2 => rw [← hu]; exact q2
        | 3 => rw [← hu]; exact q3
        | j + 4 => simp [mcell] at hu)
      have e : ((List.range len').map fun i => (g i).1).zip ((List.range len').map fun i => (g i).2) = (List.range len').map g := by
        rw [List.zip_map']
      unfold mthCells
      rw [e]
      simpa using hrd
    · rw [List.getElem?_map] at e1 e2
      obtain ⟨i, hi, rfl⟩ := Option.map_eq_some_iff.1 e1
      rw [hi] at e2
      simp at e2
      subst e2
      have hik : k < len' ∧ k = i := by
        have h1 := (List.getElem?_eq_some_iff.1 hi)
        obtain ⟨hk, he⟩ := h1
        simp at hk he
        exact ⟨hk, he⟩
      obtain ⟨_, _, _, _, hr⟩ := (hg i).2 (by omega)
      exact hr
    · obtain ⟨i, _, rfl⟩ := List.mem_map.1 hm'
      exact (hg i).1

set_option maxRecDepth 100000 in
theorem open_prog {r : Reach} {b0 : Nat} {v : Value} {d : DataW H} {ps : List MemPlace} (hv : Value.okWide Tryz.prog W r b0 25 v) (h : DataW.Trod enc Tryz.prog W 0 (fun _ => true) true 25 v d ps) :
    ∃ Ac cc Am cm p, v = pv Ac cc Am cm p ∧ RdP W W.heap.size Ac Am p ∧ POk p := by
  obtain ⟨v0, v1, y0, y1, n, rfl, _, _, t0, t1⟩ := open_agg2 Tryz.underlying25 (by kernel_rfl) (by kernel_rfl) hv h
  obtain ⟨Ac, cc, cl, e0, r0, b1, b2⟩ := open_cls_at t0
  obtain ⟨Am, cm, ms, e1, r1, b3, b4⟩ := open_mth_at t1
  obtain rfl : v0 = .slice Ac cl.length cc := by simpa using e0
  obtain rfl : v1 = .slice Am ms.length cm := by simpa using e1
  refine ⟨Ac, cc, Am, cm, ⟨cl, ms⟩, rfl, ⟨r0, r1⟩, ⟨b1, b3, fun k hk => b2 _ ?_, fun k hk => b4 _ ?_⟩⟩
  · simp at hk ⊢
    rw [List.getElem?_eq_getElem hk]
    simp
  · simp at hk ⊢
    rw [List.getElem?_eq_getElem hk]
    simp
end
end Go.Proofs.YtcmlfaikdegbfaaGreatDoor
