/-
  The library's slices.Sort and slices.Compact at two numbers.
-/
import Derived.Test.YtcmlfaikdegbfaaGreatDoorPgRd
import Derived.Lib.SliceRun
namespace Go.Proofs.YtcmlfaikdegbfaaGreatDoor
open Go.RowKit Go.Maps

theorem less_same (x y : Int) (w : World) : Calls Tryz.prog 63 #[.int .i64 x, .int .i64 y] w fun e w' => e = .returned (.bool (decide (x < y))) ∧ w' = w := by
  have hn : ∀ (z : Int) (W : World), Calls Tryz.prog 82 #[.int .i64 z] W fun e w' => e = .returned (.bool false) ∧ W = w' := fun z W => by
    go_enter Tryz.func82, Tryz.ntmps82
    go_wp2
    go_ret
    exact ⟨rfl, rfl⟩
  have Hn := Lib.hid hn
  clear hn
  go_enter Tryz.func63, Tryz.ntmps63
  go_wp2_with (go_at_call 82; refine (Hn.out _ _).mono ?_; rintro e w' ⟨rfl, rfl⟩)
  go_ret
  exact ⟨rfl, rfl⟩

/-- The two in order. -/
def lo2 (a b : Int) : Int := if b < a then b else a
def hi2 (a b : Int) : Int := if b < a then a else b
def Two (w : World) (g : Nat) (a b : Int) : Prop := Blk w g 3 #[.int .i64 (lo2 a b), .int .i64 (hi2 a b)]
def SortPost (w : World) (g : Nat) (a b : Int) (e : Ending) (w' : World) : Prop := e = .returned (.tuple #[]) ∧ Two w' g a b ∧ w.grownBy w' (some g)
theorem grown_drewN {a w : World} {row : Option Nat} (h : a.grownBy w row) (n : Nat) : a.grownBy (w.drewN n) row := ⟨h.os, h.tape, h.output, h.size, h.block⟩
theorem blk_drewN {w : World} {g : Nat} {t : TypeId} {cs : Array Value} (h : Blk w g t cs) (k : Nat) : Blk (w.drewN k) g t cs := h
theorem two_less {w : World} {g : Nat} {a b : Int} (hd : decide (b < a) = true) (h : Blk w g 3 #[.int .i64 b, .int .i64 a]) : Two w g a b := by
  have hba := of_decide_eq_true hd
  unfold Two lo2 hi2
  rw [if_pos hba, if_pos hba]
  exact h
theorem two_same {w : World} {g : Nat} {a b : Int} (hd : decide (b < a) = false) (h : Blk w g 3 #[.int .i64 a, .int .i64 b]) : Two w g a b := by
  have hba := of_decide_eq_false hd
  unfold Two lo2 hi2
  rw [if_neg hba, if_neg hba]
  exact h
set_option maxHeartbeats 1000000 in
theorem ins2_any (g : Nat) (a b : Int) (w : World) (h : Blk w g 3 #[.int .i64 a, .int .i64 b]) :
    Calls Tryz.prog 57 #[.slice (some ⟨g, 0, none⟩) 2 2, .int .i64 0, .int .i64 2] w (SortPost w g a b) := by
  have hT : ∀ wr, Two wr g a b = Two wr g a b := fun _ => rfl
  have h0 := h.at0
  have h1 := h.at1
  have f0 := h.frozen 0
  have f1 := h.frozen 1
  have hg := h.lt
  go_enter Tryz.func57, Tryz.ntmps57
  go_wp2
  go_loopw [6] (fun iv wr => (iv = .int .i64 1 ∧ wr = w) ∨ (iv = .int .i64 2 ∧ Two wr g a b ∧ w.grownBy wr (some g))) (fun iv _ => 2 - (intOf iv).toNat)
  case atStart => exact .inl ⟨rfl, rfl⟩
  case round =>
    rcases hrel with ⟨rfl, hwr⟩ | ⟨rfl, hs, hgr⟩
    · subst hwr
      go_wp2
      go_loopw [7] (fun jv w2 => (jv = .int .i64 1 ∧ w2 = wr) ∨ (jv = .int .i64 0 ∧ Two w2 g a b ∧ wr.grownBy w2 (some g))) (fun jv _ => (intOf jv).toNat)
      case atStart => exact .inl ⟨rfl, rfl⟩
      case round =>
        rcases hrel with ⟨rfl, hwr⟩ | ⟨rfl, hs, hgr⟩
        · subst hwr
          by_cases hba : b < a
          · have hd : decide (b < a) = true := by simpa using hba
            go_wp2
            go_quiet ((go_at_call 63; exact Calls.quiet_of_same (less_same _ _ _)))
            go_wp2
            go_region
            go_wp2
            have hs := two_less hd (((blk_drewN h (nq + 1)).set_ 1 (.int .i64 a)).set_ 0 (.int .i64 b))
            go_roundw
            case rel => exact .inr ⟨rfl, hs, ((grown_drewN (World.grownBy.refl _ _) _).trans (grown_setCell _ ⟨g, 1, none⟩ _)).trans (grown_setCell _ ⟨g, 0, none⟩ _)⟩
            case measure => simp [intOf]
          · have hd : decide (b < a) = false := by simpa using hba
            go_wp2
            go_quiet ((go_at_call 63; exact Calls.quiet_of_same (less_same _ _ _)))
            go_wp2
            go_roundw
            case rel => exact .inr ⟨rfl, two_same hd (blk_drewN h _), grown_drewN (World.grownBy.refl _ _) _⟩
            case measure => simp [intOf]
        · go_wp2
          go_quiet (fail)
          go_wp2
          go_roundw
          case rel => exact .inr ⟨rfl, hs, grown_drewN hgr _⟩
          case measure => simp [intOf]
    · go_wp2
      go_end0
      exact ⟨rfl, hs, hgr⟩

def SomeInt (w : World) (e : Ending) (w' : World) : Prop := ∃ k : Int, e = .returned (.int .i64 k) ∧ w = w'
set_option maxRecDepth 1000000 in
theorem len64_2 (w : World) : Calls Tryz.prog 67 #[.int .u64 2] w (SomeInt w) := by
  go_enter Tryz.func67, Tryz.ntmps67
  go_wp2
  go_ret
  exact ⟨_, rfl, rfl⟩
theorem len2 (w : World) : Calls Tryz.prog 51 #[.int .u64 2] w (SomeInt w) := by
  have h := len64_2
  have H := Lib.hid h
  clear h
  go_enter Tryz.func51, Tryz.ntmps51
  go_wp2_with fail
  refine (H.out _).mono ?_
  rintro e w' ⟨k, rfl, rfl⟩
  go_wp2
  go_ret
  exact ⟨_, rfl, rfl⟩
set_option maxRecDepth 100000 in
set_option maxHeartbeats 1000000 in
theorem pdq2_any (g : Nat) (a b : Int) (k : Int) (w : World) (h : Blk w g 3 #[.int .i64 a, .int .i64 b]) :
    Calls Tryz.prog 50 #[.slice (some ⟨g, 0, none⟩) 2 2, .int .i64 0, .int .i64 2, .int .i64 k] w (SortPost w g a b) := by
  go_enter Tryz.func50, Tryz.ntmps50
  go_wp2
  refine wp_loop_rounds 1 ?_
  rw [rounds_succ]
  go_wp2_with fail
  refine (ins2_any g a b _ h).mono ?_
  rintro e w' ⟨rfl, h1, h2⟩
  go_wp2
  exact bodyPost_ret (v := .tuple #[]) (by simp [results, Tryz.results50]) rfl ⟨rfl, h1, h2⟩
theorem sort2_any (g : Nat) (a b : Int) (w : World) (h : Blk w g 3 #[.int .i64 a, .int .i64 b]) :
    Calls Tryz.prog 38 #[.slice (some ⟨g, 0, none⟩) 2 2] w (SortPost w g a b) := by
  have hp := fun k W hW => pdq2_any g a b k W hW
  have Hp := Lib.hid hp
  clear hp
  go_enter Tryz.func38, Tryz.ntmps38
  go_wp2_with fail
  refine (len2 _).mono ?_
  rintro e w' ⟨k, rfl, rfl⟩
  go_wp2_with fail
  refine (Hp.out k _ h).mono ?_
  rintro e w' ⟨rfl, h1, h2⟩
  go_wp2
  first
    | (go_end0; exact ⟨rfl, h1, h2⟩)
    | exact bodyPost_ret (v := .tuple #[]) (by simp [results, Tryz.results38]) rfl ⟨rfl, h1, h2⟩
/-- What Compact leaves of two. -/
def cmp2 (x y : Int) : List Int := if y = x then [x] else [x, y]
def CompPost (w : World) (g : Nat) (x y : Int) (e : Ending) (w' : World) : Prop := ∃ n, n ≤ 2 ∧ e = .returned (.slice (some ⟨g, 0, none⟩) n 2) ∧ Rd w' (g + 1) 1 (some ⟨g, 0, none⟩) n (ints (cmp2 x y)) ∧ w.grownBy w' (some g)
theorem rd_pre {w : World} {g : Nat} {t : TypeId} {xs ys : List Value} (h : Blk w g t ⟨xs ++ ys⟩) {B size n : Nat} (hl : xs.length = n * size) (hB : g < B) : Rd w B size (some ⟨g, 0, none⟩) n xs :=
  ⟨hl, fun _ => ⟨g, 0, rfl, hB, fun j u hu => by
    have hj := (List.getElem?_eq_some_iff.1 hu).1
    rw [Nat.zero_add, h.cell]
    simpa [List.getElem?_append_left hj] using hu⟩⟩
theorem zeroInt (w : World) : (zeroValue 3).run Tryz.prog w = .ok (.int .i64 0) w := by kernel_rfl
theorem clear2 {g : Nat} {x y : Int} {w : World} (h : Blk w g 3 #[.int .i64 x, .int .i64 y]) (ty : TypeId) (k : Nat) :
    (Builtin.clear_ #[32] ty #[.slice (some ⟨g, 1, none⟩) 1 1]).run Tryz.prog (w.drewN k) = .ok (.tuple #[]) ((w.drewN k).setCells g 1 [.int .i64 0]) :=
  Lib.run_clear_slice (w.drewN k) 32 3 ty (.int .i64 0) Tryz.underlying32 zeroInt rfl rfl g 1 1 1 (by omega) (fun j hj => by
    obtain rfl : j = 0 := by omega
    rw [(blk_drewN h k).cell]; rfl) (fun j hj => (blk_drewN h k).frozen _)
set_option maxRecDepth 1000000 in
set_option maxHeartbeats 1000000 in
theorem compact2_any (g : Nat) (x y : Int) (w : World) (h : Blk w g 3 #[.int .i64 x, .int .i64 y]) :
    Calls Tryz.prog 39 #[.slice (some ⟨g, 0, none⟩) 2 2] w (CompPost w g x y) := by
  have h0 := h.at0
  have h1 := h.at1
  have f0 := h.frozen 0
  have f1 := h.frozen 1
  have hg := h.lt
  by_cases hxy : y = x
  · have hc : cmp2 x y = [x] := if_pos hxy
    have hd : (y == x) = true := by simp [hxy]
    have hclr := clear2 h
    have Hc := Lib.hid hc
    clear hc hxy
    go_enter Tryz.func39, Tryz.ntmps39
    go_wp2
    refine wp_loop_rounds 1 ?_
    rw [rounds_succ]
    go_wp2
    go_quiet (fail)
    go_wp2
    refine wp_loop_rounds 1 ?_
    rw [rounds_succ]
    go_wp2
    go_ret
    have hs := (blk_drewN h nq).set_ 1 (.int .i64 0)
    exact ⟨1, by omega, rfl, by rw [Hc.out]; exact rd_pre (xs := [.int .i64 x]) (ys := [.int .i64 0]) hs rfl (by omega), (grown_drewN (World.grownBy.refl _ _) nq).trans (grown_setCell _ ⟨g, 1, none⟩ _)⟩
  · have hc : cmp2 x y = [x, y] := if_neg hxy
    have hd : (y == x) = false := by simp [hxy]
    have Hc := Lib.hid hc
    clear hc hxy
    go_enter Tryz.func39, Tryz.ntmps39
    go_wp2
    go_loopw [3] (fun kv wr => (kv = .int .i64 1 ∧ wr = w) ∨ (kv = .int .i64 2 ∧ Blk wr g 3 #[.int .i64 x, .int .i64 y] ∧ w.grownBy wr (some g))) (fun kv _ => 2 - (intOf kv).toNat)
    case atStart => exact .inl ⟨rfl, rfl⟩
    case round =>
      rcases hrel with ⟨rfl, hwr⟩ | ⟨rfl, hs, hgr⟩
      · subst hwr
        go_wp2
        go_quiet (fail)
        go_wp2
        go_roundw
        case rel => exact .inr ⟨rfl, blk_drewN h _, grown_drewN (World.grownBy.refl _ _) _⟩
        case measure => simp [intOf]
      · go_wp2
        go_ret
        exact ⟨2, by omega, rfl, by rw [Hc.out]; exact Blk.rd hs rfl (by omega), hgr⟩
end Go.Proofs.YtcmlfaikdegbfaaGreatDoor
