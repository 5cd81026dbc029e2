/-
 FnOp, FnOp2.
-/
import Derived.Test.YtjjmpfmhggcjiaaGreatDoorRows
import Derived.Test.YtjjmpfmhggcjiaaGreatDoorJTx1
import Derived.Test.YtjjmpfmhggcjiaaGreatDoorJTx3
import Derived.Test.YtjjmpfmhggcjiaaGreatDoorJPgOpenP
set_option linter.unusedSimpArgs false
set_option linter.unusedVariables false
namespace Go.Proofs.YtjjmpfmhggcjiaaGreatDoor
open Go.ChangeShapes Go.WideShapes Go.Deep Go.RowKit Go.Joins
section
variable {H : Type} {enc : TypeId × Value → H} {W : World}
theorem bulk_pos (d : DataW H) : 1 ≤ Rows.uptoBulk d := by
 cases d with
 | lit l => cases l <;> simp [Rows.uptoBulk]
 | nil => simp [Rows.uptoBulk]
 | ptr d => simp [Rows.uptoBulk]
 | slice a b => simp [Rows.uptoBulk]
 | agg a => simp [Rows.uptoBulk]
 | iface t d => simp [Rows.uptoBulk]
 | map a => simp [Rows.uptoBulk]
 | held h => simp [Rows.uptoBulk]
theorem bulk_len (l : List (DataW H)) : l.length ≤ Rows.uptoBulkAll l := by
 induction l with
 | nil => simp [Rows.uptoBulkAll]
 | cons x r ih =>
   have := bulk_pos x
   simp only [Rows.uptoBulkAll, List.length_cons]
   omega
theorem bulk_sum {α : Type} (wt : α → Nat) (F : Nat → α) (Dt : Nat → DataW H) : ∀ l : List Nat, (∀ i ∈ l, wt (F i) ≤ Rows.uptoBulk (Dt i)) → wSum wt (l.map F) ≤ Rows.uptoBulkAll (l.map Dt)
 | [], _ => by simp [wSum, Rows.uptoBulkAll]
 | i :: l, h => by
   have a := h i List.mem_cons_self
   have b := bulk_sum wt F Dt l (fun j hj => h j (List.mem_cons_of_mem _ hj))
   simp only [List.map_cons, wSum, Rows.uptoBulkAll]
   omega
/-- A row of things out of what each place holds. -/
theorem open_rows {α : Type} (s : Shape α) (hs : 0 < s.size) {a : Addr} {len : Nat} {Dt : Nat → DataW H} (wt : α → Nat) (P : α → Prop)
 (hg : ∀ i, i < len → ∃ (x : α) (h : s.H), P x ∧ s.inner (fun b => b < W.heap.size) W x h ∧ wt x ≤ Rows.uptoBulk (Dt i) ∧ ∀ j u, (s.cell x h)[j]? = some u → W.cell? (a.add (i * s.size + j)) = some u) :
 ∃ l : List α, l.length = len ∧ RdL s W (fun b => b < W.heap.size) (some a) l ∧ (∀ x ∈ l, P x) ∧ wSum wt l ≤ Rows.uptoBulkAll ((List.range len).map Dt) := by
 by_cases h0 : len = 0
 · subst h0
   exact ⟨[], rfl, RdL.nil _ _ _ _, by simp, by simp [wSum]⟩
 · have hg2 : ∀ i : Nat, ∃ q : α × s.H, i < len → P q.1 ∧ s.inner (fun b => b < W.heap.size) W q.1 q.2 ∧ wt q.1 ≤ Rows.uptoBulk (Dt i) ∧ ∀ j u, (s.cell q.1 q.2)[j]? = some u → W.cell? (a.add (i * s.size + j)) = some u := fun i => by
    by_cases hi : i < len
    · obtain ⟨x, h, q⟩ := hg i hi
      exact ⟨(x, h), fun _ => q⟩
    · obtain ⟨x, h, _⟩ := hg 0 (by omega)
      exact ⟨(x, h), fun e => absurd e hi⟩
   obtain ⟨F, hF⟩ := Classical.skolem.1 hg2
   refine ⟨(List.range len).map fun i => (F i).1, by simp, ⟨(List.range len).map fun i => (F i).2, by simp, ?_, fun k x h e1 e2 => ?_⟩, fun x hx => ?_, ?_⟩
   · have hrd := rd_mk (W := W) (a := a) (fun q : α × s.H => s.cell q.1 q.2) s.size hs (fun q => s.len _ _) F len (fun i hi j u hu => (hF i hi).2.2.2 j u hu)
     have e : ((List.range len).map fun i => (F i).1).zip ((List.range len).map fun i => (F i).2) = (List.range len).map F := by rw [List.zip_map']
     unfold Shape.cells
     rw [e]
     have := RdS.of_rd hrd (S := fun b => b < W.heap.size) (fun b h => h)
     simpa using this
   · rw [List.getElem?_map] at e1 e2
     obtain ⟨i, hi, rfl⟩ := Option.map_eq_some_iff.1 e1
     rw [hi] at e2
     simp at e2
     subst e2
     have hik : i < len := by
      have := List.mem_of_getElem? hi
      simpa using this
     exact (hF i hik).2.1
   · obtain ⟨i, hi, rfl⟩ := List.mem_map.1 hx
     exact (hF i (by simpa using hi)).1
   · exact bulk_sum wt (fun i => (F i).1) Dt _ (fun i hi => (hF i (by simpa using hi)).2.2.1)
theorem i64_of {n : Int} (h : wf64 n) : I64 n := of_wf64 h
theorem open_ints_at {cs : List Value} {n : Nat} {x : DataW H × List MemPlace} (h : DataW.trod enc Tryz.prog W 0 (fun _ => true) true n 47 cs = some x) :
 ∃ (A : Option Addr) (c : Nat) (l : List Int), cs = [.slice A l.length c] ∧ RdS W (fun b => b < W.heap.size) 1 A l.length (ints l) ∧ (∀ y ∈ l, I64 y) ∧ l.length + 1 ≤ Rows.uptoBulk x.1 := by
 rcases open_ints Tryz.underlying47 Tryz.underlying3 (by kernel_rfl) h with ⟨hcs, hx⟩ | ⟨a, len, cap, zs, hcs, _, hl, hm, hz, hx, hcell, hwz⟩
 · subst hx
   exact ⟨none, 0, [], hcs, RdS.nil _ _ _ _, by simp, by simp [Rows.uptoBulk]⟩
 · simp only [if_true] at hz
   subst hx
   have hlen : (zs.take len).length = len := by simp; omega
   refine ⟨some a, cap, zs.take len, by rw [hlen]; exact hcs, ?_, fun x hx => i64_of (hwz x (List.mem_of_mem_take hx)), ?_⟩
   · rw [hlen]
     refine RdS.of_rd (B := W.heap.size) ⟨by simp [ints]; omega, fun hn => ?_⟩ (fun b h => h)
     obtain ⟨b, off, rfl, hcell2⟩ := _root_.Go.ints_at hcell (by omega)
     refine ⟨b, off, rfl, block_lt_of_cell (hcell2 0 (by omega)), fun j u hu => ?_⟩
     have hj : j < len := by
      have := (List.getElem?_eq_some_iff.1 hu).1
      simp [ints] at this; omega
     rw [hcell2 j (by omega), ← hu]
     simp [ints, hj, List.getElem?_eq_getElem (show j < zs.length by omega)]
   · have := bulk_len (H := H) (lits .i64 (zs.take len))
     have e : (lits (H := H) .i64 (zs.take len)).length = len := by simp [lits]; omega
     simp only [Rows.uptoBulk]
     omega
theorem bulk_agg {ys : List (DataW H × List MemPlace)} : Rows.uptoBulk (.agg (ys.map (·.1))) = Rows.uptoBulkAll (ys.map (·.1)) + 1 := by simp [Rows.uptoBulk]
set_option maxRecDepth 100000 in
theorem open_Vt_at {cs : List Value} {n : Nat} {x : DataW H × List MemPlace} (h : DataW.trod enc Tryz.prog W 0 (fun _ => true) true n 68 cs = some x) :
 ∃ (A : Option Addr) (c : Nat) (l : List Vt), cs = [.slice A l.length c] ∧ RdL vtShape W (fun b => b < W.heap.size) A l ∧ (∀ x ∈ l, (I64 x.cls ∧ ∀ y ∈ x.fields, I64 y)) ∧ wSum wVt l + 1 ≤ Rows.uptoBulk x.1 := by
 rcases open_slice_fields Tryz.underlying68 Tryz.underlying72 (by kernel_rfl) (by kernel_rfl) h with ⟨hcs, hx⟩ | ⟨a, len, cap, m, Dt, Pl, hcs, _, hl, hm, hz, hx, hcell⟩
 · subst hx
   exact ⟨none, 0, [], hcs, RdL.nil _ _ _ _, by simp, by simp [Rows.uptoBulk, wSum]⟩
 · simp only [if_true] at hz
   subst hz
   obtain ⟨l, h1, h2, h3, h4⟩ := open_rows (W := W) (a := a) (len := len) (Dt := Dt) vtShape (by decide) wVt (fun x => (I64 x.cls ∧ ∀ y ∈ x.fields, I64 y)) (fun i hi => by
    obtain ⟨ys, k, hD, _, hyl, hj⟩ := hcell i (by omega)
    obtain ⟨v0, y0, c0, g0, t0⟩ := hj 0 _ rfl
    obtain ⟨v1, y1, c1, g1, t1⟩ := hj 1 _ rfl
    obtain rfl : ys = [y0, y1] := by
     match ys, hyl with
     | [z0, z1], _ => simp at g0 g1; subst g0 g1; rfl
    obtain ⟨x0, e0, b0, w0⟩ := DataW.trod_int Tryz.underlying3 t0
    obtain rfl : v0 = .int .i64 x0 := by simpa using e0
    obtain ⟨A1, d1, x1, e1, r1, w1, b1⟩ := open_ints_at t1
    obtain rfl : v1 = .slice A1 x1.length d1 := by simpa using e1
    refine ⟨⟨x0, x1⟩, (A1, d1), ⟨i64_of w0, w1⟩, r1, ?_, fun j u hu => ?_⟩
    · rw [hD, bulk_agg]
      have q0 := bulk_pos y0.1
      simp only [List.map_cons, List.map_nil, Rows.uptoBulkAll, wVt]
      omega
    · match j with
      | 0 => rw [← hu]; exact c0
      | 1 => rw [← hu]; exact c1
      | j + 2 => simp [vtShape] at hu)
   refine ⟨some a, m, l, by rw [h1]; exact hcs, h2, h3, ?_⟩
   rw [hx]
   simp only [Rows.uptoBulk]
   omega
set_option maxRecDepth 100000 in
theorem open_Nd_at {cs : List Value} {n : Nat} {x : DataW H × List MemPlace} (h : DataW.trod enc Tryz.prog W 0 (fun _ => true) true n 26 cs = some x) :
 ∃ (A : Option Addr) (c : Nat) (l : List Nd), cs = [.slice A l.length c] ∧ RdL ndShape W (fun b => b < W.heap.size) A l ∧ (∀ x ∈ l, ((I64 x.op ∧ I64 x.a ∧ I64 x.b ∧ I64 x.st ∧ I64 x.n) ∧ ∀ y ∈ x.args, I64 y)) ∧ wSum wNd l + 1 ≤ Rows.uptoBulk x.1 := by
 rcases open_slice_fields Tryz.underlying26 Tryz.underlying59 (by kernel_rfl) (by kernel_rfl) h with ⟨hcs, hx⟩ | ⟨a, len, cap, m, Dt, Pl, hcs, _, hl, hm, hz, hx, hcell⟩
 · subst hx
   exact ⟨none, 0, [], hcs, RdL.nil _ _ _ _, by simp, by simp [Rows.uptoBulk, wSum]⟩
 · simp only [if_true] at hz
   subst hz
   obtain ⟨l, h1, h2, h3, h4⟩ := open_rows (W := W) (a := a) (len := len) (Dt := Dt) ndShape (by decide) wNd (fun x => ((I64 x.op ∧ I64 x.a ∧ I64 x.b ∧ I64 x.st ∧ I64 x.n) ∧ ∀ y ∈ x.args, I64 y)) (fun i hi => by
    obtain ⟨ys, k, hD, _, hyl, hj⟩ := hcell i (by omega)
    obtain ⟨v0, y0, c0, g0, t0⟩ := hj 0 _ rfl
    obtain ⟨v1, y1, c1, g1, t1⟩ := hj 1 _ rfl
    obtain ⟨v2, y2, c2, g2, t2⟩ := hj 2 _ rfl
    obtain ⟨v3, y3, c3, g3, t3⟩ := hj 3 _ rfl
    obtain ⟨v4, y4, c4, g4, t4⟩ := hj 4 _ rfl
    obtain ⟨v5, y5, c5, g5, t5⟩ := hj 5 _ rfl
    obtain ⟨v6, y6, c6, g6, t6⟩ := hj 6 _ rfl
    obtain rfl : ys = [y0, y1, y2, y3, y4, y5, y6] := by
     match ys, hyl with
     | [z0, z1, z2, z3, z4, z5, z6], _ => simp at g0 g1 g2 g3 g4 g5 g6; subst g0 g1 g2 g3 g4 g5 g6; rfl
    obtain ⟨x0, e0, b0, w0⟩ := DataW.trod_int Tryz.underlying3 t0
    obtain rfl : v0 = .int .i64 x0 := by simpa using e0
    obtain ⟨x1, e1, b1, w1⟩ := DataW.trod_int Tryz.underlying3 t1
    obtain rfl : v1 = .int .i64 x1 := by simpa using e1
    obtain ⟨x2, e2, b2, w2⟩ := DataW.trod_int Tryz.underlying3 t2
    obtain rfl : v2 = .int .i64 x2 := by simpa using e2
    obtain ⟨x3, e3, b3, w3⟩ := DataW.trod_int Tryz.underlying3 t3
    obtain rfl : v3 = .int .i64 x3 := by simpa using e3
    obtain ⟨x4, e4, b4, w4⟩ := DataW.trod_string Tryz.underlying9 t4
    obtain rfl : v4 = .string x4 := by simpa using e4
    obtain ⟨x5, e5, b5, w5⟩ := DataW.trod_int Tryz.underlying2 t5
    obtain rfl : v5 = .int .i64 x5 := by simpa using e5
    obtain ⟨A6, d6, x6, e6, r6, w6, b6⟩ := open_ints_at t6
    obtain rfl : v6 = .slice A6 x6.length d6 := by simpa using e6
    refine ⟨⟨x0, x1, x2, x3, x4, x5, x6⟩, (A6, d6), ⟨⟨i64_of w0, i64_of w1, i64_of w2, i64_of w3, i64_of w5⟩, w6⟩, r6, ?_, fun j u hu => ?_⟩
    · rw [hD, bulk_agg]
      have q0 := bulk_pos y0.1
      have q1 := bulk_pos y1.1
      have q2 := bulk_pos y2.1
      have q3 := bulk_pos y3.1
      have q4 : Rows.uptoBulk y4.1 = x4.size + 1 := by rw [b4]; simp [Rows.uptoBulk]
      have q5 := bulk_pos y5.1
      simp only [List.map_cons, List.map_nil, Rows.uptoBulkAll, wNd]
      omega
    · match j with
      | 0 => rw [← hu]; exact c0
      | 1 => rw [← hu]; exact c1
      | 2 => rw [← hu]; exact c2
      | 3 => rw [← hu]; exact c3
      | 4 => rw [← hu]; exact c4
      | 5 => rw [← hu]; exact c5
      | 6 => rw [← hu]; exact c6
      | j + 7 => simp [ndShape] at hu)
   refine ⟨some a, m, l, by rw [h1]; exact hcs, h2, h3, ?_⟩
   rw [hx]
   simp only [Rows.uptoBulk]
   omega
set_option maxRecDepth 100000 in
theorem open_Bk_at {cs : List Value} {n : Nat} {x : DataW H × List MemPlace} (h : DataW.trod enc Tryz.prog W 0 (fun _ => true) true n 27 cs = some x) :
 ∃ (A : Option Addr) (c : Nat) (l : List Bk), cs = [.slice A l.length c] ∧ RdL bkShape W (fun b => b < W.heap.size) A l ∧ (∀ x ∈ l, ((∀ y ∈ x.phis, I64 y) ∧ (∀ y ∈ x.body, I64 y) ∧ (∀ y ∈ x.succ, I64 y) ∧ ∀ y ∈ x.preds, I64 y)) ∧ wSum wBk l + 1 ≤ Rows.uptoBulk x.1 := by
 rcases open_slice_fields Tryz.underlying27 Tryz.underlying61 (by kernel_rfl) (by kernel_rfl) h with ⟨hcs, hx⟩ | ⟨a, len, cap, m, Dt, Pl, hcs, _, hl, hm, hz, hx, hcell⟩
 · subst hx
   exact ⟨none, 0, [], hcs, RdL.nil _ _ _ _, by simp, by simp [Rows.uptoBulk, wSum]⟩
 · simp only [if_true] at hz
   subst hz
   obtain ⟨l, h1, h2, h3, h4⟩ := open_rows (W := W) (a := a) (len := len) (Dt := Dt) bkShape (by decide) wBk (fun x => ((∀ y ∈ x.phis, I64 y) ∧ (∀ y ∈ x.body, I64 y) ∧ (∀ y ∈ x.succ, I64 y) ∧ ∀ y ∈ x.preds, I64 y)) (fun i hi => by
    obtain ⟨ys, k, hD, _, hyl, hj⟩ := hcell i (by omega)
    obtain ⟨v0, y0, c0, g0, t0⟩ := hj 0 _ rfl
    obtain ⟨v1, y1, c1, g1, t1⟩ := hj 1 _ rfl
    obtain ⟨v2, y2, c2, g2, t2⟩ := hj 2 _ rfl
    obtain ⟨v3, y3, c3, g3, t3⟩ := hj 3 _ rfl
    obtain rfl : ys = [y0, y1, y2, y3] := by
     match ys, hyl with
     | [z0, z1, z2, z3], _ => simp at g0 g1 g2 g3; subst g0 g1 g2 g3; rfl
    obtain ⟨A0, d0, x0, e0, r0, w0, b0⟩ := open_ints_at t0
    obtain rfl : v0 = .slice A0 x0.length d0 := by simpa using e0
    obtain ⟨A1, d1, x1, e1, r1, w1, b1⟩ := open_ints_at t1
    obtain rfl : v1 = .slice A1 x1.length d1 := by simpa using e1
    obtain ⟨A2, d2, x2, e2, r2, w2, b2⟩ := open_ints_at t2
    obtain rfl : v2 = .slice A2 x2.length d2 := by simpa using e2
    obtain ⟨A3, d3, x3, e3, r3, w3, b3⟩ := open_ints_at t3
    obtain rfl : v3 = .slice A3 x3.length d3 := by simpa using e3
    refine ⟨⟨x0, x1, x2, x3⟩, ⟨(A0, d0), (A1, d1), (A2, d2), (A3, d3)⟩, ⟨w0, w1, w2, w3⟩, ⟨r0, r1, r2, r3⟩, ?_, fun j u hu => ?_⟩
    · rw [hD, bulk_agg]
      simp only [List.map_cons, List.map_nil, Rows.uptoBulkAll, wBk]
      omega
    · match j with
      | 0 => rw [← hu]; exact c0
      | 1 => rw [← hu]; exact c1
      | 2 => rw [← hu]; exact c2
      | 3 => rw [← hu]; exact c3
      | j + 4 => simp [bkShape] at hu)
   refine ⟨some a, m, l, by rw [h1]; exact hcs, h2, h3, ?_⟩
   rw [hx]
   simp only [Rows.uptoBulk]
   omega
set_option maxRecDepth 100000 in
theorem open_Ste_at {cs : List Value} {n : Nat} {x : DataW H × List MemPlace} (h : DataW.trod enc Tryz.prog W 0 (fun _ => true) true n 28 cs = some x) :
 ∃ (A : Option Addr) (c : Nat) (l : List Ste), cs = [.slice A l.length c] ∧ RdL steShape W (fun b => b < W.heap.size) A l ∧ (∀ x ∈ l, ((I64 x.mth ∧ I64 x.pc ∧ I64 x.up) ∧ (∀ y ∈ x.locals, I64 y) ∧ (∀ y ∈ x.stack, I64 y) ∧ ∀ v ∈ x.virts, I64 v.cls ∧ ∀ y ∈ v.fields, I64 y)) ∧ wSum wSte l + 1 ≤ Rows.uptoBulk x.1 := by
 rcases open_slice_fields Tryz.underlying28 Tryz.underlying70 (by kernel_rfl) (by kernel_rfl) h with ⟨hcs, hx⟩ | ⟨a, len, cap, m, Dt, Pl, hcs, _, hl, hm, hz, hx, hcell⟩
 · subst hx
   exact ⟨none, 0, [], hcs, RdL.nil _ _ _ _, by simp, by simp [Rows.uptoBulk, wSum]⟩
 · simp only [if_true] at hz
   subst hz
   obtain ⟨l, h1, h2, h3, h4⟩ := open_rows (W := W) (a := a) (len := len) (Dt := Dt) steShape (by decide) wSte (fun x => ((I64 x.mth ∧ I64 x.pc ∧ I64 x.up) ∧ (∀ y ∈ x.locals, I64 y) ∧ (∀ y ∈ x.stack, I64 y) ∧ ∀ v ∈ x.virts, I64 v.cls ∧ ∀ y ∈ v.fields, I64 y)) (fun i hi => by
    obtain ⟨ys, k, hD, _, hyl, hj⟩ := hcell i (by omega)
    obtain ⟨v0, y0, c0, g0, t0⟩ := hj 0 _ rfl
    obtain ⟨v1, y1, c1, g1, t1⟩ := hj 1 _ rfl
    obtain ⟨v2, y2, c2, g2, t2⟩ := hj 2 _ rfl
    obtain ⟨v3, y3, c3, g3, t3⟩ := hj 3 _ rfl
    obtain ⟨v4, y4, c4, g4, t4⟩ := hj 4 _ rfl
    obtain ⟨v5, y5, c5, g5, t5⟩ := hj 5 _ rfl
    obtain rfl : ys = [y0, y1, y2, y3, y4, y5] := by
     match ys, hyl with
     | [z0, z1, z2, z3, z4, z5], _ => simp at g0 g1 g2 g3 g4 g5; subst g0 g1 g2 g3 g4 g5; rfl
    obtain ⟨x0, e0, b0, w0⟩ := DataW.trod_int Tryz.underlying3 t0
    obtain rfl : v0 = .int .i64 x0 := by simpa using e0
    obtain ⟨x1, e1, b1, w1⟩ := DataW.trod_int Tryz.underlying3 t1
    obtain rfl : v1 = .int .i64 x1 := by simpa using e1
    obtain ⟨x2, e2, b2, w2⟩ := DataW.trod_int Tryz.underlying3 t2
    obtain rfl : v2 = .int .i64 x2 := by simpa using e2
    obtain ⟨A3, d3, x3, e3, r3, w3, b3⟩ := open_ints_at t3
    obtain rfl : v3 = .slice A3 x3.length d3 := by simpa using e3
    obtain ⟨A4, d4, x4, e4, r4, w4, b4⟩ := open_ints_at t4
    obtain rfl : v4 = .slice A4 x4.length d4 := by simpa using e4
    obtain ⟨A5, d5, x5, e5, r5, w5, b5⟩ := open_Vt_at t5
    obtain rfl : v5 = .slice A5 x5.length d5 := by simpa using e5
    refine ⟨⟨x0, x1, x2, x3, x4, x5⟩, ⟨(A3, d3), (A4, d4), (A5, d5), (none, 0)⟩, ⟨⟨i64_of w0, i64_of w1, i64_of w2⟩, w3, w4, w5⟩, ⟨r3, r4, r5⟩, ?_, fun j u hu => ?_⟩
    · rw [hD, bulk_agg]
      have q0 := bulk_pos y0.1
      have q1 := bulk_pos y1.1
      have q2 := bulk_pos y2.1
      simp only [List.map_cons, List.map_nil, Rows.uptoBulkAll, wSte]
      omega
    · match j with
      | 0 => rw [← hu]; exact c0
      | 1 => rw [← hu]; exact c1
      | 2 => rw [← hu]; exact c2
      | 3 => rw [← hu]; exact c3
      | 4 => rw [← hu]; exact c4
      | 5 => rw [← hu]; exact c5
      | j + 6 => simp [steShape] at hu)
   refine ⟨some a, m, l, by rw [h1]; exact hcs, h2, h3, ?_⟩
   rw [hx]
   simp only [Rows.uptoBulk]
   omega
end
end Go.Proofs.YtjjmpfmhggcjiaaGreatDoor
namespace Go.Proofs.YtjjmpfmhggcjiaaGreatDoor
open Go.ChangeShapes Go.WideShapes Go.Deep Go.RowKit Go.Joins
section
variable {H : Type} {enc : TypeId × Value → H} {W : World}
theorem array5 {α : Type} {cs : Array α} (h : cs.size = 5) : ∃ a b c d e, cs = #[a, b, c, d, e] := by
 obtain ⟨l⟩ := cs
 match l, h with
 | [a, b, c, d, e], _ => exact ⟨a, b, c, d, e, rfl⟩
set_option maxRecDepth 100000 in
theorem open_fn {r : _root_.Go.Reach} {b0 : Nat} {v : Value} {d : DataW H} {ps : List MemPlace} (hv : Value.okWide Tryz.prog W r b0 30 v) (h : DataW.Trod enc Tryz.prog W 0 (fun _ => true) true 30 v d ps) :
 ∃ An Ab As cn cb cs f, v = fv An Ab As cn cb cs f ∧ RdF W (fun b => b < W.heap.size) An Ab As f ∧ FnJ f ∧ wFn f ≤ Rows.uptoBulk d := by
 obtain ⟨cs, rfl, hsz⟩ := okWide_struct Tryz.underlying30 hv
 obtain ⟨c0, c1, c2, c3, c4, rfl⟩ := array5 (hsz.trans (by kernel_rfl))
 obtain ⟨fuel, hf⟩ := h
 obtain ⟨xs, n, _, hx, hl, hlen, hg⟩ := DataW.trod_struct Tryz.underlying30 hf
 match xs, hlen with
 | [y0, y1, y2, y3, y4], _ =>
   have k0 : Tryz.prog.cellsOf 3 = 1 := by kernel_rfl
   have k2 : Tryz.prog.cellsOf 26 = 1 := by kernel_rfl
   have k3 : Tryz.prog.cellsOf 27 = 1 := by kernel_rfl
   have k4 : Tryz.prog.cellsOf 28 = 1 := by kernel_rfl
   have t0 : DataW.trod enc Tryz.prog W 0 (fun _ => true) true n 3 [c0] = some y0 := by
    have := hg 0 _ rfl
    simpa [Value.cells, k0] using this
   have t1 : DataW.trod enc Tryz.prog W 0 (fun _ => true) true n 3 [c1] = some y1 := by
    have := hg 1 _ rfl
    simpa [Value.cells, k0] using this
   have t2 : DataW.trod enc Tryz.prog W 0 (fun _ => true) true n 26 [c2] = some y2 := by
    have := hg 2 _ rfl
    simpa [Value.cells, k2] using this
   have t3 : DataW.trod enc Tryz.prog W 0 (fun _ => true) true n 27 [c3] = some y3 := by
    have := hg 3 _ rfl
    simpa [Value.cells, k3] using this
   have t4 : DataW.trod enc Tryz.prog W 0 (fun _ => true) true n 28 [c4] = some y4 := by
    have := hg 4 _ rfl
    simpa [Value.cells, k4] using this
   obtain ⟨m, e0, _, w0⟩ := DataW.trod_int Tryz.underlying3 t0
   obtain ⟨en, e1, _, w1⟩ := DataW.trod_int Tryz.underlying3 t1
   obtain ⟨An, cn, ns, e2, r2, p2, b2⟩ := open_Nd_at t2
   obtain ⟨Ab, cb, bs, e3, r3, p3, b3⟩ := open_Bk_at t3
   obtain ⟨As, cs, ss, e4, r4, p4, b4⟩ := open_Ste_at t4
   obtain rfl : c0 = .int .i64 m := by simpa using e0
   obtain rfl : c1 = .int .i64 en := by simpa using e1
   obtain rfl : c2 = .slice An ns.length cn := by simpa using e2
   obtain rfl : c3 = .slice Ab bs.length cb := by simpa using e3
   obtain rfl : c4 = .slice As ss.length cs := by simpa using e4
   refine ⟨An, Ab, As, cn, cb, cs, ⟨m, en, ns, bs, ss⟩, rfl, ⟨r2, r3, r4⟩, ⟨⟨i64_of w0, i64_of w1⟩, p2, p3, p4⟩, ?_⟩
   have hd : d = .agg [y0.1, y1.1, y2.1, y3.1, y4.1] := by
    have := congrArg (·.1) hx
    simpa using this
   have q0 := bulk_pos y0.1
   have q1 := bulk_pos y1.1
   rw [hd]
   simp only [Rows.uptoBulk, Rows.uptoBulkAll, wFn]
   omega
theorem wNd_pos (x : Nd) : 1 ≤ wNd x := by unfold wNd; omega
theorem wBk_pos (x : Bk) : 1 ≤ wBk x := by unfold wBk; omega
theorem wVt_pos (x : Vt) : 1 ≤ wVt x := by unfold wVt; omega
theorem wSte_pos (x : Ste) : 1 ≤ wSte x := by unfold wSte; omega
theorem getD_mem {α : Type} [Inhabited α] (l : List α) (k : Nat) : l.getD k default ∈ l ∨ l.getD k default = default := by
 by_cases h : k < l.length
 · left
   rw [List.getD_eq_getElem?_getD, List.getElem?_eq_getElem h]
   exact List.getElem_mem h
 · right
   rw [List.getD_eq_getElem?_getD, List.getElem?_eq_none (by omega)]
   rfl
theorem i64_0 : I64 0 := by unfold I64; omega
/-- A function of such a bulk is one with which can be reckoned. -/
theorem fn_ok (T : Lib.PrintTabs) {f : Fn} (h : FnJ f) (hw : wFn f ≤ 1048576) : FnOk T f := by
 unfold wFn at hw
 have hn := wSum_len wNd_pos f.nodes
 have hb := wSum_len wBk_pos f.blocks
 have hs := wSum_len wSte_pos f.states
 have nd : ∀ k, wNd (f.nodes.getD k default) ≤ 1048576 := fun k => by
  rcases getD_mem f.nodes k with e | e
  · have := wSum_mem (w := wNd) e
    omega
  · rw [e]; decide
 have bk : ∀ k, wBk (f.blocks.getD k default) ≤ 1048576 := fun k => by
  rcases getD_mem f.blocks k with e | e
  · have := wSum_mem (w := wBk) e
    omega
  · rw [e]; decide
 have st : ∀ k, wSte (f.states.getD k default) ≤ 1048576 := fun k => by
  rcases getD_mem f.states k with e | e
  · have := wSum_mem (w := wSte) e
    omega
  · rw [e]; decide
 refine ⟨⟨fun k => ?_, fun k => ?_, fun k => ?_, fun k => ?_, fun k => ?_, fun k => ?_, fun k => ?_, fun k => ?_, fun k j => ?_⟩, ⟨h.top, fun k => ?_, fun k => ?_, fun k => ?_⟩, ?_, by omega, by omega, by omega⟩
 · have := nd k; unfold wNd at this; omega
 · have := bk k; unfold wBk at this; omega
 · have := bk k; unfold wBk at this; omega
 · have := bk k; unfold wBk at this; omega
 · have := bk k; unfold wBk at this; omega
 · have := st k; unfold wSte at this; omega
 · have := st k; unfold wSte at this; omega
 · have := st k; unfold wSte at this
   have := wSum_len wVt_pos (f.states.getD k default).virts
   omega
 · have h1 := st k; unfold wSte at h1
   rcases getD_mem (f.states.getD k default).virts j with e | e
   · have h2 := wSum_mem (w := wVt) e
     have h3 : ((f.states.getD k default).virts.getD j default).fields.length ≤ wVt ((f.states.getD k default).virts.getD j default) := by unfold wVt; omega
     omega
   · rw [e]; show 0 ≤ _; omega
 · have h1 := nd k
   unfold wNd at h1
   rcases getD_mem f.nodes k with e | e
   · exact ⟨(h.nd _ e).1, (h.nd _ e).2, by omega⟩
   · rw [e]; exact ⟨⟨i64_0, i64_0, i64_0, i64_0, i64_0⟩, fun y hy => (by cases hy), by decide⟩
 · rcases getD_mem f.blocks k with e | e
   · exact h.bk _ e
   · rw [e]; exact ⟨fun y hy => (by cases hy), fun y hy => (by cases hy), fun y hy => (by cases hy), fun y hy => (by cases hy)⟩
 · rcases getD_mem f.states k with e | e
   · obtain ⟨h1, h2, h3, h4⟩ := h.st _ e
     refine ⟨h1, h2, h3, fun j => ?_⟩
     rcases getD_mem (f.states.getD k default).virts j with e2 | e2
     · exact h4 _ e2
     · rw [e2]; exact ⟨i64_0, fun y hy => (by cases hy)⟩
   · rw [e]
     refine ⟨⟨i64_0, i64_0, i64_0⟩, fun y hy => (by cases hy), fun y hy => (by cases hy), fun j => ?_⟩
     rcases getD_mem (default : Ste).virts j with e2 | e2
     · cases e2
     · rw [e2]; exact ⟨i64_0, fun y hy => (by cases hy)⟩
 · have := text_len T h
   unfold wFn at this
   omega
end
end Go.Proofs.YtjjmpfmhggcjiaaGreatDoor
