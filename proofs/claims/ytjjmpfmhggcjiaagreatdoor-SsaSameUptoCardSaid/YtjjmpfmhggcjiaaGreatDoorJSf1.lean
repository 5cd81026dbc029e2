/-
 Sf1.
-/
import Derived.StillTailTactics
import Derived.Test.YtjjmpfmhggcjiaaGreatDoorJDomOf0
set_option linter.unusedSimpArgs false
set_option linter.unusedVariables false
namespace Go.Proofs.YtjjmpfmhggcjiaaGreatDoor
open Go.RowKit Go.Maps
theorem dec_iff5 {p : Prop} : dec p = true ↔ p := ⟨dec_p, dec_t⟩
/-- As far as k. -/
def upTo5 {α : Type} (l1 l2 : List α) (k : Nat) : Prop := l1.take k = l2.take k
theorem upTo_next5 {α : Type} [Inhabited α] {l1 l2 : List α} {k : Nat} {d : α} (h1 : k < l1.length) (h2 : k < l2.length) (h : upTo5 l1 l2 k) (he : l1.getD k d = l2.getD k d) : upTo5 l1 l2 (k + 1) := by
 unfold upTo5 at *
 rw [List.take_succ_eq_append_getElem h1, List.take_succ_eq_append_getElem h2, h]
 simp [h1, h2] at he
 rw [he]
theorem upTo_not5 {α : Type} {l1 l2 : List α} {k : Nat} {d : α} (he : l1.getD k d ≠ l2.getD k d) : l1 ≠ l2 := fun e => he (by rw [e])
theorem upTo_all5 {α : Type} {l1 l2 : List α} {k : Nat} (h1 : l1.length = k) (h2 : l2.length = k) (h : upTo5 l1 l2 k) : l1 = l2 := by
 unfold upTo5 at h
 rwa [List.take_of_length_le (by omega), List.take_of_length_le (by omega)] at h
theorem len_not5 {α : Type} {l1 l2 : List α} (h : l1.length ≠ l2.length) : l1 ≠ l2 := fun e => h (by rw [e])
theorem str_eqb5 (s t : ByteArray) : (s.toList == t.toList) = decide (s = t) := by
 rw [Bool.eq_iff_iff]
 simp only [beq_iff_eq, decide_eq_true_eq]
 exact ⟨fun h => ByteArray.ext (Array.ext' (by rw [ByteArray.toList_eq, ByteArray.toList_eq] at h; exact h)), fun h => by rw [h]⟩
def SamePost {α : Type} (w : World) (x y : α) (e : Ending) (w' : World) : Prop := e = .returned (.bool (dec (x = y))) ∧ Below w.heap.size w w'
set_option maxRecDepth 100000 in
set_option maxHeartbeats 2000000 in
theorem sameVt_any (A11 A21 : Option Addr) (c11 c21 : Nat) (x y : Vt) (w : World) (h11 : Rd w w.heap.size 1 A11 x.fields.length (ints x.fields)) (h21 : Rd w w.heap.size 1 A21 y.fields.length (ints y.fields)) (l1 : x.fields.length ≤ 2000000) :
 Calls Tryz.prog 182 #[.agg #[.int .i64 x.cls, .slice A11 x.fields.length c11], .agg #[.int .i64 y.cls, .slice A21 y.fields.length c21]] w (SamePost w x y) := by
 have H := Lib.hid (show dec (x = y) = (decide (x.cls = y.cls) && (decide (x.fields = y.fields))) from by
  obtain ⟨x0, x1⟩ := x
  obtain ⟨y0, y1⟩ := y
  rw [Bool.eq_iff_iff]; simp [dec_iff5])
 unfold SamePost
 have bX := (Blk.new w 72 #[.int .i64 x.cls, .slice A11 x.fields.length c11]).alloc (.cells #[.int .i64 y.cls, .slice A21 y.fields.length c21] 72)
 have bY := Blk.newAt (w := w.alloc (.cells #[.int .i64 x.cls, .slice A11 x.fields.length c11] 72)) (g := w.heap.size + 1) (by simp) 72 #[.int .i64 y.cls, .slice A21 y.fields.length c21]
 have hb := ((Below.refl w.heap.size w).alloc (Nat.le_refl _) (.cells #[.int .i64 x.cls, .slice A11 x.fields.length c11] 72)).alloc (by simp) (.cells #[.int .i64 y.cls, .slice A21 y.fields.length c21] 72)
 have HS1 := Lib.hid (fun W (hW : Below w.heap.size w W) => sameInts_any A11 A21 _ _ c11 c21 x.fields y.fields W (by omega) ((h11.below hW (Nat.le_refl _)).more hW.size) ((h21.below hW (Nat.le_refl _)).more hW.size))
 clear h11 h21
 go_enter Tryz.func182, Tryz.ntmps182
 go_upto_region 1 with (fail)
 generalize (w.alloc (.cells #[.int .i64 x.cls, .slice A11 x.fields.length c11] 72)).alloc (.cells #[.int .i64 y.cls, .slice A21 y.fields.length c21] 72) = w2 at *
 have x1 := bX.cell 1
 have y1 := bY.cell 1
 simp at x1 y1
 go_wp2_with fail
 refine (HS1.out _ hb).mono ?_
 rintro e w3 ⟨rfl, hb3⟩
 have bX := bX.below hb3 bX.lt
 have bY := bY.below hb3 bY.lt
 have hb := hb.trans (hb3.mono hb.size)
 clear x1 y1 hb3
 have u0 := bX.cell 0
 have v0 := bY.cell 0
 simp at u0 v0
 generalize decide (x.fields = y.fields) = q1 at *
 clear HS1
 go_wp2
 all_goals
  go_ret
  refine ⟨ret_bool ?_, hb⟩
  clear bX bY hb
  rw [H.out, Bool.eq_iff_iff]
  simp_all
set_option maxRecDepth 100000 in
set_option maxHeartbeats 2000000 in
theorem sameVts_any (A1 A2 : Option Addr) (c1 c2 : Nat) (l1 l2 : List Vt) (w : World) (hn1 : l1.length ≤ 9223372036854775807) (h1 : RdL vtShape w (fun b => b < w.heap.size) A1 l1) (h2 : RdL vtShape w (fun b => b < w.heap.size) A2 l2) (hf1 : ∀ k, (l1.getD k default).fields.length ≤ 2000000) :
 Calls Tryz.prog 144 #[.slice A1 l1.length c1, .slice A2 l2.length c2] w (SamePost w l1 l2) := by
 unfold SamePost
 by_cases hne : l1.length = l2.length
 · obtain ⟨n, hn⟩ : ∃ n, l1.length = n := ⟨_, rfl⟩
   have hn2 : l2.length = n := by omega
   rw [hn] at hn1
   rw [hn, hn2]
   have Hl1 := Lib.hid hn
   have Hl2 := Lib.hid hn2
   clear hn hn2 hne
   go_enter Tryz.func144, Tryz.ntmps144
   go_wp2
   go_loopw [5] (fun i wr => ∃ k : Nat, k ≤ n ∧ i = .int .i64 k ∧ Hid (upTo5 l1 l2 k) ∧ Below w.heap.size w wr) (fun i _ => n - (intOf i).toNat)
   case atStart => exact ⟨0, Nat.zero_le _, rfl, Lib.hid rfl, Below.refl _ _⟩
   case round =>
    obtain ⟨k, hk, rfl, Heq, hb⟩ := hrel
    have hz := hb.size
    by_cases hlt : k < n
    · obtain ⟨b1, o1, A11, c11, rfl, hb1, x0, x1, r11⟩ := rd_vt (l := l1) (h1.below hb (fun _ h => h)) (by rw [Hl1.out]; exact hlt)
      obtain ⟨b2, o2, A21, c21, rfl, hb2, y0, y1, r21⟩ := rd_vt (l := l2) (h2.below hb (fun _ h => h)) (by rw [Hl2.out]; exact hlt)
      have hyes := fun he => upTo_next5 (l1 := l1) (l2 := l2) (k := k) (d := default) (by rw [Hl1.out]; exact hlt) (by rw [Hl2.out]; exact hlt) Heq.out he
      have hno := fun he => upTo_not5 (l1 := l1) (l2 := l2) (k := k) (d := default) he
      have Hs := Lib.hid (sameVt_any A11 A21 c11 c21 (l1.getD k default) (l2.getD k default) wr.drew ((r11.keep (fun _ _ => rfl)).rd (fun b h => by show b < wr.heap.size; omega)) ((r21.keep (fun _ _ => rfl)).rd (fun b h => by show b < wr.heap.size; omega)) (hf1 k))
      clear r11 r21
      have k0 : (0 : Int) ≤ k := by omega
      have k1 : (k : Int) < n := by omega
      generalize l1.getD k default = x at *
      generalize l2.getD k default = y at *
      unfold SamePost at Hs
      cases hxy : dec (x = y) with
      | true =>
        have Hy := Lib.hid (hyes (dec_p hxy))
        rw [hxy] at Hs
        clear hxy hyes hno
        go_wp2_with fail
        go_still_tail 8, (by kernel_rfl)
        change wpList _ _ _ _ _ wr.drew
        go_wp2_with fail
        refine Hs.out.mono ?_
        rintro e w6 ⟨rfl, hb6⟩
        have hb7 := hb.drew.trans (hb6.mono hz)
        go_wp2
        go_roundw
        case rel => exact ⟨k + 1, by omega, by go_num, Hy, hb7⟩
        case measure => simp [intOf]; omega
      | false =>
        have Hy := Lib.hid (hno (dec_n hxy))
        rw [hxy] at Hs
        clear hxy hyes hno
        go_wp2_with fail
        go_still_tail 8, (by kernel_rfl)
        change wpList _ _ _ _ _ wr.drew
        go_wp2_with fail
        refine Hs.out.mono ?_
        rintro e w6 ⟨rfl, hb6⟩
        have hb7 := hb.drew.trans (hb6.mono hz)
        go_wp2
        go_ret
        exact ⟨ret_bool (dec_f Hy.out).symm, hb7⟩
    · have e : k = n := by omega
      clear hlt
      go_wp2
      go_ret
      exact ⟨ret_bool (dec_t (upTo_all5 (k := k) (by rw [Hl1.out, e]) (by rw [Hl2.out, e]) Heq.out)).symm, hb⟩
 · have Hn := Lib.hid (len_not5 hne)
   go_enter Tryz.func144, Tryz.ntmps144
   go_wp2
   all_goals
    go_ret
    exact ⟨ret_bool (dec_f Hn.out).symm, Below.refl _ _⟩
set_option maxRecDepth 100000 in
set_option maxHeartbeats 2000000 in
theorem sameNd_any (A11 A21 : Option Addr) (c11 c21 : Nat) (x y : Nd) (w : World) (h11 : Rd w w.heap.size 1 A11 x.args.length (ints x.args)) (h21 : Rd w w.heap.size 1 A21 y.args.length (ints y.args)) (l1 : x.args.length ≤ 2000000) :
 Calls Tryz.prog 99 #[.agg #[.int .i64 x.op, .int .i64 x.a, .int .i64 x.b, .int .i64 x.st, .string x.kind, .int .i64 x.n, .slice A11 x.args.length c11], .agg #[.int .i64 y.op, .int .i64 y.a, .int .i64 y.b, .int .i64 y.st, .string y.kind, .int .i64 y.n, .slice A21 y.args.length c21]] w (SamePost w x y) := by
 have H := Lib.hid (show dec (x = y) = (decide (x.op = y.op) && (decide (x.a = y.a) && (decide (x.b = y.b) && (decide (x.st = y.st) && (decide (x.kind = y.kind) && (decide (x.n = y.n) && (decide (x.args = y.args)))))))) from by
  obtain ⟨x0, x1, x2, x3, x4, x5, x6⟩ := x
  obtain ⟨y0, y1, y2, y3, y4, y5, y6⟩ := y
  rw [Bool.eq_iff_iff]; simp [dec_iff5])
 unfold SamePost
 have bX := (Blk.new w 59 #[.int .i64 x.op, .int .i64 x.a, .int .i64 x.b, .int .i64 x.st, .string x.kind, .int .i64 x.n, .slice A11 x.args.length c11]).alloc (.cells #[.int .i64 y.op, .int .i64 y.a, .int .i64 y.b, .int .i64 y.st, .string y.kind, .int .i64 y.n, .slice A21 y.args.length c21] 59)
 have bY := Blk.newAt (w := w.alloc (.cells #[.int .i64 x.op, .int .i64 x.a, .int .i64 x.b, .int .i64 x.st, .string x.kind, .int .i64 x.n, .slice A11 x.args.length c11] 59)) (g := w.heap.size + 1) (by simp) 59 #[.int .i64 y.op, .int .i64 y.a, .int .i64 y.b, .int .i64 y.st, .string y.kind, .int .i64 y.n, .slice A21 y.args.length c21]
 have hb := ((Below.refl w.heap.size w).alloc (Nat.le_refl _) (.cells #[.int .i64 x.op, .int .i64 x.a, .int .i64 x.b, .int .i64 x.st, .string x.kind, .int .i64 x.n, .slice A11 x.args.length c11] 59)).alloc (by simp) (.cells #[.int .i64 y.op, .int .i64 y.a, .int .i64 y.b, .int .i64 y.st, .string y.kind, .int .i64 y.n, .slice A21 y.args.length c21] 59)
 have HS1 := Lib.hid (fun W (hW : Below w.heap.size w W) => sameInts_any A11 A21 _ _ c11 c21 x.args y.args W (by omega) ((h11.below hW (Nat.le_refl _)).more hW.size) ((h21.below hW (Nat.le_refl _)).more hW.size))
 clear h11 h21
 go_enter Tryz.func99, Tryz.ntmps99
 go_upto_region 1 with (fail)
 generalize (w.alloc (.cells #[.int .i64 x.op, .int .i64 x.a, .int .i64 x.b, .int .i64 x.st, .string x.kind, .int .i64 x.n, .slice A11 x.args.length c11] 59)).alloc (.cells #[.int .i64 y.op, .int .i64 y.a, .int .i64 y.b, .int .i64 y.st, .string y.kind, .int .i64 y.n, .slice A21 y.args.length c21] 59) = w2 at *
 have x1 := bX.cell 6
 have y1 := bY.cell 6
 simp at x1 y1
 go_wp2_with fail
 refine (HS1.out _ hb).mono ?_
 rintro e w3 ⟨rfl, hb3⟩
 have bX := bX.below hb3 bX.lt
 have bY := bY.below hb3 bY.lt
 have hb := hb.trans (hb3.mono hb.size)
 clear x1 y1 hb3
 have u0 := bX.cell 0
 have v0 := bY.cell 0
 simp at u0 v0
 have u1 := bX.cell 1
 have v1 := bY.cell 1
 simp at u1 v1
 have u2 := bX.cell 2
 have v2 := bY.cell 2
 simp at u2 v2
 have u3 := bX.cell 3
 have v3 := bY.cell 3
 simp at u3 v3
 have u4 := bX.cell 4
 have v4 := bY.cell 4
 simp at u4 v4
 have u5 := bX.cell 5
 have v5 := bY.cell 5
 simp at u5 v5
 generalize decide (x.args = y.args) = q6 at *
 have hs := str_eqb5 x.kind y.kind
 clear HS1
 go_wp2
 all_goals
  go_ret
  refine ⟨ret_bool ?_, hb⟩
  clear bX bY hb
  rw [H.out, Bool.eq_iff_iff]
  simp_all
set_option maxRecDepth 100000 in
set_option maxHeartbeats 2000000 in
theorem sameNds_any (A1 A2 : Option Addr) (c1 c2 : Nat) (l1 l2 : List Nd) (w : World) (hn1 : l1.length ≤ 9223372036854775807) (h1 : RdL ndShape w (fun b => b < w.heap.size) A1 l1) (h2 : RdL ndShape w (fun b => b < w.heap.size) A2 l2) (hf1 : ∀ k, (l1.getD k default).args.length ≤ 2000000) :
 Calls Tryz.prog 52 #[.slice A1 l1.length c1, .slice A2 l2.length c2] w (SamePost w l1 l2) := by
 unfold SamePost
 by_cases hne : l1.length = l2.length
 · obtain ⟨n, hn⟩ : ∃ n, l1.length = n := ⟨_, rfl⟩
   have hn2 : l2.length = n := by omega
   rw [hn] at hn1
   rw [hn, hn2]
   have Hl1 := Lib.hid hn
   have Hl2 := Lib.hid hn2
   clear hn hn2 hne
   go_enter Tryz.func52, Tryz.ntmps52
   go_wp2
   go_loopw [5] (fun i wr => ∃ k : Nat, k ≤ n ∧ i = .int .i64 k ∧ Hid (upTo5 l1 l2 k) ∧ Below w.heap.size w wr) (fun i _ => n - (intOf i).toNat)
   case atStart => exact ⟨0, Nat.zero_le _, rfl, Lib.hid rfl, Below.refl _ _⟩
   case round =>
    obtain ⟨k, hk, rfl, Heq, hb⟩ := hrel
    have hz := hb.size
    by_cases hlt : k < n
    · obtain ⟨b1, o1, A11, c11, rfl, hb1, x0, x1, x2, x3, x4, x5, x6, r11⟩ := rd_nd (l := l1) (h1.below hb (fun _ h => h)) (by rw [Hl1.out]; exact hlt)
      obtain ⟨b2, o2, A21, c21, rfl, hb2, y0, y1, y2, y3, y4, y5, y6, r21⟩ := rd_nd (l := l2) (h2.below hb (fun _ h => h)) (by rw [Hl2.out]; exact hlt)
      have hyes := fun he => upTo_next5 (l1 := l1) (l2 := l2) (k := k) (d := default) (by rw [Hl1.out]; exact hlt) (by rw [Hl2.out]; exact hlt) Heq.out he
      have hno := fun he => upTo_not5 (l1 := l1) (l2 := l2) (k := k) (d := default) he
      have Hs := Lib.hid (sameNd_any A11 A21 c11 c21 (l1.getD k default) (l2.getD k default) wr.drew ((r11.keep (fun _ _ => rfl)).rd (fun b h => by show b < wr.heap.size; omega)) ((r21.keep (fun _ _ => rfl)).rd (fun b h => by show b < wr.heap.size; omega)) (hf1 k))
      clear r11 r21
      have k0 : (0 : Int) ≤ k := by omega
      have k1 : (k : Int) < n := by omega
      generalize l1.getD k default = x at *
      generalize l2.getD k default = y at *
      unfold SamePost at Hs
      cases hxy : dec (x = y) with
      | true =>
        have Hy := Lib.hid (hyes (dec_p hxy))
        rw [hxy] at Hs
        clear hxy hyes hno
        go_wp2_with fail
        go_still_tail 8, (by kernel_rfl)
        change wpList _ _ _ _ _ wr.drew
        go_wp2_with fail
        refine Hs.out.mono ?_
        rintro e w6 ⟨rfl, hb6⟩
        have hb7 := hb.drew.trans (hb6.mono hz)
        go_wp2
        go_roundw
        case rel => exact ⟨k + 1, by omega, by go_num, Hy, hb7⟩
        case measure => simp [intOf]; omega
      | false =>
        have Hy := Lib.hid (hno (dec_n hxy))
        rw [hxy] at Hs
        clear hxy hyes hno
        go_wp2_with fail
        go_still_tail 8, (by kernel_rfl)
        change wpList _ _ _ _ _ wr.drew
        go_wp2_with fail
        refine Hs.out.mono ?_
        rintro e w6 ⟨rfl, hb6⟩
        have hb7 := hb.drew.trans (hb6.mono hz)
        go_wp2
        go_ret
        exact ⟨ret_bool (dec_f Hy.out).symm, hb7⟩
    · have e : k = n := by omega
      clear hlt
      go_wp2
      go_ret
      exact ⟨ret_bool (dec_t (upTo_all5 (k := k) (by rw [Hl1.out, e]) (by rw [Hl2.out, e]) Heq.out)).symm, hb⟩
 · have Hn := Lib.hid (len_not5 hne)
   go_enter Tryz.func52, Tryz.ntmps52
   go_wp2
   all_goals
    go_ret
    exact ⟨ret_bool (dec_f Hn.out).symm, Below.refl _ _⟩
set_option maxRecDepth 100000 in
set_option maxHeartbeats 2000000 in
theorem sameBk_any (A11 A12 A13 A14 A21 A22 A23 A24 : Option Addr) (c11 c12 c13 c14 c21 c22 c23 c24 : Nat) (x y : Bk) (w : World) (h11 : Rd w w.heap.size 1 A11 x.phis.length (ints x.phis)) (h12 : Rd w w.heap.size 1 A12 x.body.length (ints x.body)) (h13 : Rd w w.heap.size 1 A13 x.succ.length (ints x.succ)) (h14 : Rd w w.heap.size 1 A14 x.preds.length (ints x.preds)) (h21 : Rd w w.heap.size 1 A21 y.phis.length (ints y.phis)) (h22 : Rd w w.heap.size 1 A22 y.body.length (ints y.body)) (h23 : Rd w w.heap.size 1 A23 y.succ.length (ints y.succ)) (h24 : Rd w w.heap.size 1 A24 y.preds.length (ints y.preds)) (l1 : x.phis.length ≤ 2000000) (l2 : x.body.length ≤ 2000000) (l3 : x.succ.length ≤ 2000000) (l4 : x.preds.length ≤ 2000000) :
 Calls Tryz.prog 100 #[.agg #[.slice A11 x.phis.length c11, .slice A12 x.body.length c12, .slice A13 x.succ.length c13, .slice A14 x.preds.length c14], .agg #[.slice A21 y.phis.length c21, .slice A22 y.body.length c22, .slice A23 y.succ.length c23, .slice A24 y.preds.length c24]] w (SamePost w x y) := by
 have H := Lib.hid (show dec (x = y) = (decide (x.phis = y.phis) && (decide (x.body = y.body) && (decide (x.succ = y.succ) && (decide (x.preds = y.preds))))) from by
  obtain ⟨x0, x1, x2, x3⟩ := x
  obtain ⟨y0, y1, y2, y3⟩ := y
  rw [Bool.eq_iff_iff]; simp [dec_iff5])
 unfold SamePost
 have bX := (Blk.new w 61 #[.slice A11 x.phis.length c11, .slice A12 x.body.length c12, .slice A13 x.succ.length c13, .slice A14 x.preds.length c14]).alloc (.cells #[.slice A21 y.phis.length c21, .slice A22 y.body.length c22, .slice A23 y.succ.length c23, .slice A24 y.preds.length c24] 61)
 have bY := Blk.newAt (w := w.alloc (.cells #[.slice A11 x.phis.length c11, .slice A12 x.body.length c12, .slice A13 x.succ.length c13, .slice A14 x.preds.length c14] 61)) (g := w.heap.size + 1) (by simp) 61 #[.slice A21 y.phis.length c21, .slice A22 y.body.length c22, .slice A23 y.succ.length c23, .slice A24 y.preds.length c24]
 have hb := ((Below.refl w.heap.size w).alloc (Nat.le_refl _) (.cells #[.slice A11 x.phis.length c11, .slice A12 x.body.length c12, .slice A13 x.succ.length c13, .slice A14 x.preds.length c14] 61)).alloc (by simp) (.cells #[.slice A21 y.phis.length c21, .slice A22 y.body.length c22, .slice A23 y.succ.length c23, .slice A24 y.preds.length c24] 61)
 have HS1 := Lib.hid (fun W (hW : Below w.heap.size w W) => sameInts_any A11 A21 _ _ c11 c21 x.phis y.phis W (by omega) ((h11.below hW (Nat.le_refl _)).more hW.size) ((h21.below hW (Nat.le_refl _)).more hW.size))
 have HS2 := Lib.hid (fun W (hW : Below w.heap.size w W) => sameInts_any A12 A22 _ _ c12 c22 x.body y.body W (by omega) ((h12.below hW (Nat.le_refl _)).more hW.size) ((h22.below hW (Nat.le_refl _)).more hW.size))
 have HS3 := Lib.hid (fun W (hW : Below w.heap.size w W) => sameInts_any A13 A23 _ _ c13 c23 x.succ y.succ W (by omega) ((h13.below hW (Nat.le_refl _)).more hW.size) ((h23.below hW (Nat.le_refl _)).more hW.size))
 have HS4 := Lib.hid (fun W (hW : Below w.heap.size w W) => sameInts_any A14 A24 _ _ c14 c24 x.preds y.preds W (by omega) ((h14.below hW (Nat.le_refl _)).more hW.size) ((h24.below hW (Nat.le_refl _)).more hW.size))
 clear h11 h12 h13 h14 h21 h22 h23 h24
 go_enter Tryz.func100, Tryz.ntmps100
 go_upto_region 1 with (fail)
 generalize (w.alloc (.cells #[.slice A11 x.phis.length c11, .slice A12 x.body.length c12, .slice A13 x.succ.length c13, .slice A14 x.preds.length c14] 61)).alloc (.cells #[.slice A21 y.phis.length c21, .slice A22 y.body.length c22, .slice A23 y.succ.length c23, .slice A24 y.preds.length c24] 61) = w2 at *
 have x1 := bX.cell 0
 have y1 := bY.cell 0
 simp at x1 y1
 go_wp2_with fail
 refine (HS1.out _ hb).mono ?_
 rintro e w3 ⟨rfl, hb3⟩
 have bX := bX.below hb3 bX.lt
 have bY := bY.below hb3 bY.lt
 have hb := hb.trans (hb3.mono hb.size)
 clear x1 y1 hb3
 have x2 := bX.cell 1
 have y2 := bY.cell 1
 simp at x2 y2
 go_wp2_with fail
 refine (HS2.out _ hb).mono ?_
 rintro e w4 ⟨rfl, hb4⟩
 have bX := bX.below hb4 bX.lt
 have bY := bY.below hb4 bY.lt
 have hb := hb.trans (hb4.mono hb.size)
 clear x2 y2 hb4
 have x3 := bX.cell 2
 have y3 := bY.cell 2
 simp at x3 y3
 go_wp2_with fail
 refine (HS3.out _ hb).mono ?_
 rintro e w5 ⟨rfl, hb5⟩
 have bX := bX.below hb5 bX.lt
 have bY := bY.below hb5 bY.lt
 have hb := hb.trans (hb5.mono hb.size)
 clear x3 y3 hb5
 have x4 := bX.cell 3
 have y4 := bY.cell 3
 simp at x4 y4
 go_wp2_with fail
 refine (HS4.out _ hb).mono ?_
 rintro e w6 ⟨rfl, hb6⟩
 have bX := bX.below hb6 bX.lt
 have bY := bY.below hb6 bY.lt
 have hb := hb.trans (hb6.mono hb.size)
 clear x4 y4 hb6
 generalize decide (x.phis = y.phis) = q0 at *
 generalize decide (x.body = y.body) = q1 at *
 generalize decide (x.succ = y.succ) = q2 at *
 generalize decide (x.preds = y.preds) = q3 at *
 clear HS1 HS2 HS3 HS4
 go_wp2
 all_goals
  go_ret
  refine ⟨ret_bool ?_, hb⟩
  clear bX bY hb
  rw [H.out, Bool.eq_iff_iff]
  simp_all
set_option maxRecDepth 100000 in
set_option maxHeartbeats 2000000 in
theorem sameBks_any (A1 A2 : Option Addr) (c1 c2 : Nat) (l1 l2 : List Bk) (w : World) (hn1 : l1.length ≤ 9223372036854775807) (h1 : RdL bkShape w (fun b => b < w.heap.size) A1 l1) (h2 : RdL bkShape w (fun b => b < w.heap.size) A2 l2) (hf1 : ∀ k, (l1.getD k default).phis.length ≤ 2000000) (hf2 : ∀ k, (l1.getD k default).body.length ≤ 2000000) (hf3 : ∀ k, (l1.getD k default).succ.length ≤ 2000000) (hf4 : ∀ k, (l1.getD k default).preds.length ≤ 2000000) :
 Calls Tryz.prog 53 #[.slice A1 l1.length c1, .slice A2 l2.length c2] w (SamePost w l1 l2) := by
 unfold SamePost
 by_cases hne : l1.length = l2.length
 · obtain ⟨n, hn⟩ : ∃ n, l1.length = n := ⟨_, rfl⟩
   have hn2 : l2.length = n := by omega
   rw [hn] at hn1
   rw [hn, hn2]
   have Hl1 := Lib.hid hn
   have Hl2 := Lib.hid hn2
   clear hn hn2 hne
   go_enter Tryz.func53, Tryz.ntmps53
   go_wp2
   go_loopw [5] (fun i wr => ∃ k : Nat, k ≤ n ∧ i = .int .i64 k ∧ Hid (upTo5 l1 l2 k) ∧ Below w.heap.size w wr) (fun i _ => n - (intOf i).toNat)
   case atStart => exact ⟨0, Nat.zero_le _, rfl, Lib.hid rfl, Below.refl _ _⟩
   case round =>
    obtain ⟨k, hk, rfl, Heq, hb⟩ := hrel
    have hz := hb.size
    by_cases hlt : k < n
    · obtain ⟨b1, o1, A11, c11, A12, c12, A13, c13, A14, c14, rfl, hb1, x0, x1, x2, x3, r11, r12, r13, r14⟩ := rd_bk (l := l1) (h1.below hb (fun _ h => h)) (by rw [Hl1.out]; exact hlt)
      obtain ⟨b2, o2, A21, c21, A22, c22, A23, c23, A24, c24, rfl, hb2, y0, y1, y2, y3, r21, r22, r23, r24⟩ := rd_bk (l := l2) (h2.below hb (fun _ h => h)) (by rw [Hl2.out]; exact hlt)
      have hyes := fun he => upTo_next5 (l1 := l1) (l2 := l2) (k := k) (d := default) (by rw [Hl1.out]; exact hlt) (by rw [Hl2.out]; exact hlt) Heq.out he
      have hno := fun he => upTo_not5 (l1 := l1) (l2 := l2) (k := k) (d := default) he
      have Hs := Lib.hid (sameBk_any A11 A12 A13 A14 A21 A22 A23 A24 c11 c12 c13 c14 c21 c22 c23 c24 (l1.getD k default) (l2.getD k default) wr.drew ((r11.keep (fun _ _ => rfl)).rd (fun b h => by show b < wr.heap.size; omega)) ((r12.keep (fun _ _ => rfl)).rd (fun b h => by show b < wr.heap.size; omega)) ((r13.keep (fun _ _ => rfl)).rd (fun b h => by show b < wr.heap.size; omega)) ((r14.keep (fun _ _ => rfl)).rd (fun b h => by show b < wr.heap.size; omega)) ((r21.keep (fun _ _ => rfl)).rd (fun b h => by show b < wr.heap.size; omega)) ((r22.keep (fun _ _ => rfl)).rd (fun b h => by show b < wr.heap.size; omega)) ((r23.keep (fun _ _ => rfl)).rd (fun b h => by show b < wr.heap.size; omega)) ((r24.keep (fun _ _ => rfl)).rd (fun b h => by show b < wr.heap.size; omega)) (hf1 k) (hf2 k) (hf3 k) (hf4 k))
      clear r11 r12 r13 r14 r21 r22 r23 r24
      have k0 : (0 : Int) ≤ k := by omega
      have k1 : (k : Int) < n := by omega
      generalize l1.getD k default = x at *
      generalize l2.getD k default = y at *
      unfold SamePost at Hs
      cases hxy : dec (x = y) with
      | true =>
        have Hy := Lib.hid (hyes (dec_p hxy))
        rw [hxy] at Hs
        clear hxy hyes hno
        go_wp2_with fail
        go_still_tail 8, (by kernel_rfl)
        change wpList _ _ _ _ _ wr.drew
        go_wp2_with fail
        refine Hs.out.mono ?_
        rintro e w6 ⟨rfl, hb6⟩
        have hb7 := hb.drew.trans (hb6.mono hz)
        go_wp2
        go_roundw
        case rel => exact ⟨k + 1, by omega, by go_num, Hy, hb7⟩
        case measure => simp [intOf]; omega
      | false =>
        have Hy := Lib.hid (hno (dec_n hxy))
        rw [hxy] at Hs
        clear hxy hyes hno
        go_wp2_with fail
        go_still_tail 8, (by kernel_rfl)
        change wpList _ _ _ _ _ wr.drew
        go_wp2_with fail
        refine Hs.out.mono ?_
        rintro e w6 ⟨rfl, hb6⟩
        have hb7 := hb.drew.trans (hb6.mono hz)
        go_wp2
        go_ret
        exact ⟨ret_bool (dec_f Hy.out).symm, hb7⟩
    · have e : k = n := by omega
      clear hlt
      go_wp2
      go_ret
      exact ⟨ret_bool (dec_t (upTo_all5 (k := k) (by rw [Hl1.out, e]) (by rw [Hl2.out, e]) Heq.out)).symm, hb⟩
 · have Hn := Lib.hid (len_not5 hne)
   go_enter Tryz.func53, Tryz.ntmps53
   go_wp2
   all_goals
    go_ret
    exact ⟨ret_bool (dec_f Hn.out).symm, Below.refl _ _⟩
set_option maxRecDepth 100000 in
set_option maxHeartbeats 2000000 in
theorem sameSte_any (A11 A12 A13 A21 A22 A23 : Option Addr) (c11 c12 c13 c21 c22 c23 : Nat) (x y : Ste) (w : World) (h11 : Rd w w.heap.size 1 A11 x.locals.length (ints x.locals)) (h12 : Rd w w.heap.size 1 A12 x.stack.length (ints x.stack)) (h13 : RdL vtShape w (fun b => b < w.heap.size) A13 x.virts) (h21 : Rd w w.heap.size 1 A21 y.locals.length (ints y.locals)) (h22 : Rd w w.heap.size 1 A22 y.stack.length (ints y.stack)) (h23 : RdL vtShape w (fun b => b < w.heap.size) A23 y.virts) (l1 : x.locals.length ≤ 2000000) (l2 : x.stack.length ≤ 2000000) (l3 : x.virts.length ≤ 2000000) (lv : ∀ k, (x.virts.getD k default).fields.length ≤ 2000000) :
 Calls Tryz.prog 101 #[.agg #[.int .i64 x.mth, .int .i64 x.pc, .int .i64 x.up, .slice A11 x.locals.length c11, .slice A12 x.stack.length c12, .slice A13 x.virts.length c13], .agg #[.int .i64 y.mth, .int .i64 y.pc, .int .i64 y.up, .slice A21 y.locals.length c21, .slice A22 y.stack.length c22, .slice A23 y.virts.length c23]] w (SamePost w x y) := by
 have H := Lib.hid (show dec (x = y) = (decide (x.mth = y.mth) && (decide (x.pc = y.pc) && (decide (x.up = y.up) && (decide (x.locals = y.locals) && (decide (x.stack = y.stack) && (dec (x.virts = y.virts))))))) from by
  obtain ⟨x0, x1, x2, x3, x4, x5⟩ := x
  obtain ⟨y0, y1, y2, y3, y4, y5⟩ := y
  rw [Bool.eq_iff_iff]; simp [dec_iff5])
 unfold SamePost
 have bX := (Blk.new w 70 #[.int .i64 x.mth, .int .i64 x.pc, .int .i64 x.up, .slice A11 x.locals.length c11, .slice A12 x.stack.length c12, .slice A13 x.virts.length c13]).alloc (.cells #[.int .i64 y.mth, .int .i64 y.pc, .int .i64 y.up, .slice A21 y.locals.length c21, .slice A22 y.stack.length c22, .slice A23 y.virts.length c23] 70)
 have bY := Blk.newAt (w := w.alloc (.cells #[.int .i64 x.mth, .int .i64 x.pc, .int .i64 x.up, .slice A11 x.locals.length c11, .slice A12 x.stack.length c12, .slice A13 x.virts.length c13] 70)) (g := w.heap.size + 1) (by simp) 70 #[.int .i64 y.mth, .int .i64 y.pc, .int .i64 y.up, .slice A21 y.locals.length c21, .slice A22 y.stack.length c22, .slice A23 y.virts.length c23]
 have hb := ((Below.refl w.heap.size w).alloc (Nat.le_refl _) (.cells #[.int .i64 x.mth, .int .i64 x.pc, .int .i64 x.up, .slice A11 x.locals.length c11, .slice A12 x.stack.length c12, .slice A13 x.virts.length c13] 70)).alloc (by simp) (.cells #[.int .i64 y.mth, .int .i64 y.pc, .int .i64 y.up, .slice A21 y.locals.length c21, .slice A22 y.stack.length c22, .slice A23 y.virts.length c23] 70)
 have HS1 := Lib.hid (fun W (hW : Below w.heap.size w W) => sameInts_any A11 A21 _ _ c11 c21 x.locals y.locals W (by omega) ((h11.below hW (Nat.le_refl _)).more hW.size) ((h21.below hW (Nat.le_refl _)).more hW.size))
 have HS2 := Lib.hid (fun W (hW : Below w.heap.size w W) => sameInts_any A12 A22 _ _ c12 c22 x.stack y.stack W (by omega) ((h12.below hW (Nat.le_refl _)).more hW.size) ((h22.below hW (Nat.le_refl _)).more hW.size))
 have HS3 := Lib.hid (fun W (hW : Below w.heap.size w W) => sameVts_any A13 A23 c13 c23 x.virts y.virts W (by omega) ((h13.below hW (fun _ h => h)).more (fun b h => Nat.lt_of_lt_of_le h hW.size)) ((h23.below hW (fun _ h => h)).more (fun b h => Nat.lt_of_lt_of_le h hW.size)) lv)
 clear h11 h12 h13 h21 h22 h23
 go_enter Tryz.func101, Tryz.ntmps101
 go_upto_region 1 with (fail)
 generalize (w.alloc (.cells #[.int .i64 x.mth, .int .i64 x.pc, .int .i64 x.up, .slice A11 x.locals.length c11, .slice A12 x.stack.length c12, .slice A13 x.virts.length c13] 70)).alloc (.cells #[.int .i64 y.mth, .int .i64 y.pc, .int .i64 y.up, .slice A21 y.locals.length c21, .slice A22 y.stack.length c22, .slice A23 y.virts.length c23] 70) = w2 at *
 have x1 := bX.cell 3
 have y1 := bY.cell 3
 simp at x1 y1
 go_wp2_with fail
 refine (HS1.out _ hb).mono ?_
 rintro e w3 ⟨rfl, hb3⟩
 have bX := bX.below hb3 bX.lt
 have bY := bY.below hb3 bY.lt
 have hb := hb.trans (hb3.mono hb.size)
 clear x1 y1 hb3
 have x2 := bX.cell 4
 have y2 := bY.cell 4
 simp at x2 y2
 go_wp2_with fail
 refine (HS2.out _ hb).mono ?_
 rintro e w4 ⟨rfl, hb4⟩
 have bX := bX.below hb4 bX.lt
 have bY := bY.below hb4 bY.lt
 have hb := hb.trans (hb4.mono hb.size)
 clear x2 y2 hb4
 have x3 := bX.cell 5
 have y3 := bY.cell 5
 simp at x3 y3
 go_wp2_with fail
 refine (HS3.out _ hb).mono ?_
 rintro e w5 ⟨rfl, hb5⟩
 have bX := bX.below hb5 bX.lt
 have bY := bY.below hb5 bY.lt
 have hb := hb.trans (hb5.mono hb.size)
 clear x3 y3 hb5
 have u0 := bX.cell 0
 have v0 := bY.cell 0
 simp at u0 v0
 have u1 := bX.cell 1
 have v1 := bY.cell 1
 simp at u1 v1
 have u2 := bX.cell 2
 have v2 := bY.cell 2
 simp at u2 v2
 generalize decide (x.locals = y.locals) = q3 at *
 generalize decide (x.stack = y.stack) = q4 at *
 generalize dec (x.virts = y.virts) = q5 at *
 clear HS1 HS2 HS3
 go_wp2
 all_goals
  go_ret
  refine ⟨ret_bool ?_, hb⟩
  clear bX bY hb
  rw [H.out, Bool.eq_iff_iff]
  simp_all
set_option maxRecDepth 100000 in
set_option maxHeartbeats 2000000 in
theorem sameStes_any (A1 A2 : Option Addr) (c1 c2 : Nat) (l1 l2 : List Ste) (w : World) (hn1 : l1.length ≤ 9223372036854775807) (h1 : RdL steShape w (fun b => b < w.heap.size) A1 l1) (h2 : RdL steShape w (fun b => b < w.heap.size) A2 l2) (hf1 : ∀ k, (l1.getD k default).locals.length ≤ 2000000) (hf2 : ∀ k, (l1.getD k default).stack.length ≤ 2000000) (hf3 : ∀ k, (l1.getD k default).virts.length ≤ 2000000) (hv : ∀ k j, ((l1.getD k default).virts.getD j default).fields.length ≤ 2000000) :
 Calls Tryz.prog 54 #[.slice A1 l1.length c1, .slice A2 l2.length c2] w (SamePost w l1 l2) := by
 unfold SamePost
 by_cases hne : l1.length = l2.length
 · obtain ⟨n, hn⟩ : ∃ n, l1.length = n := ⟨_, rfl⟩
   have hn2 : l2.length = n := by omega
   rw [hn] at hn1
   rw [hn, hn2]
   have Hl1 := Lib.hid hn
   have Hl2 := Lib.hid hn2
   clear hn hn2 hne
   go_enter Tryz.func54, Tryz.ntmps54
   go_wp2
   go_loopw [5] (fun i wr => ∃ k : Nat, k ≤ n ∧ i = .int .i64 k ∧ Hid (upTo5 l1 l2 k) ∧ Below w.heap.size w wr) (fun i _ => n - (intOf i).toNat)
   case atStart => exact ⟨0, Nat.zero_le _, rfl, Lib.hid rfl, Below.refl _ _⟩
   case round =>
    obtain ⟨k, hk, rfl, Heq, hb⟩ := hrel
    have hz := hb.size
    by_cases hlt : k < n
    · obtain ⟨b1, o1, A11, c11, A12, c12, A13, c13, rfl, hb1, x0, x1, x2, x3, x4, x5, r11, r12, r13⟩ := rd_ste (l := l1) (h1.below hb (fun _ h => h)) (by rw [Hl1.out]; exact hlt)
      obtain ⟨b2, o2, A21, c21, A22, c22, A23, c23, rfl, hb2, y0, y1, y2, y3, y4, y5, r21, r22, r23⟩ := rd_ste (l := l2) (h2.below hb (fun _ h => h)) (by rw [Hl2.out]; exact hlt)
      have hyes := fun he => upTo_next5 (l1 := l1) (l2 := l2) (k := k) (d := default) (by rw [Hl1.out]; exact hlt) (by rw [Hl2.out]; exact hlt) Heq.out he
      have hno := fun he => upTo_not5 (l1 := l1) (l2 := l2) (k := k) (d := default) he
      have Hs := Lib.hid (sameSte_any A11 A12 A13 A21 A22 A23 c11 c12 c13 c21 c22 c23 (l1.getD k default) (l2.getD k default) wr.drew ((r11.keep (fun _ _ => rfl)).rd (fun b h => by show b < wr.heap.size; omega)) ((r12.keep (fun _ _ => rfl)).rd (fun b h => by show b < wr.heap.size; omega)) ((r13.keep (fun _ _ => rfl)).more (fun b h => by show b < wr.heap.size; omega)) ((r21.keep (fun _ _ => rfl)).rd (fun b h => by show b < wr.heap.size; omega)) ((r22.keep (fun _ _ => rfl)).rd (fun b h => by show b < wr.heap.size; omega)) ((r23.keep (fun _ _ => rfl)).more (fun b h => by show b < wr.heap.size; omega)) (hf1 k) (hf2 k) (hf3 k) (hv k))
      clear r11 r12 r13 r21 r22 r23
      have k0 : (0 : Int) ≤ k := by omega
      have k1 : (k : Int) < n := by omega
      generalize l1.getD k default = x at *
      generalize l2.getD k default = y at *
      unfold SamePost at Hs
      cases hxy : dec (x = y) with
      | true =>
        have Hy := Lib.hid (hyes (dec_p hxy))
        rw [hxy] at Hs
        clear hxy hyes hno
        go_wp2_with fail
        go_still_tail 8, (by kernel_rfl)
        change wpList _ _ _ _ _ wr.drew
        go_wp2_with fail
        refine Hs.out.mono ?_
        rintro e w6 ⟨rfl, hb6⟩
        have hb7 := hb.drew.trans (hb6.mono hz)
        go_wp2
        go_roundw
        case rel => exact ⟨k + 1, by omega, by go_num, Hy, hb7⟩
        case measure => simp [intOf]; omega
      | false =>
        have Hy := Lib.hid (hno (dec_n hxy))
        rw [hxy] at Hs
        clear hxy hyes hno
        go_wp2_with fail
        go_still_tail 8, (by kernel_rfl)
        change wpList _ _ _ _ _ wr.drew
        go_wp2_with fail
        refine Hs.out.mono ?_
        rintro e w6 ⟨rfl, hb6⟩
        have hb7 := hb.drew.trans (hb6.mono hz)
        go_wp2
        go_ret
        exact ⟨ret_bool (dec_f Hy.out).symm, hb7⟩
    · have e : k = n := by omega
      clear hlt
      go_wp2
      go_ret
      exact ⟨ret_bool (dec_t (upTo_all5 (k := k) (by rw [Hl1.out, e]) (by rw [Hl2.out, e]) Heq.out)).symm, hb⟩
 · have Hn := Lib.hid (len_not5 hne)
   go_enter Tryz.func54, Tryz.ntmps54
   go_wp2
   all_goals
    go_ret
    exact ⟨ret_bool (dec_f Hn.out).symm, Below.refl _ _⟩
end Go.Proofs.YtjjmpfmhggcjiaaGreatDoor
