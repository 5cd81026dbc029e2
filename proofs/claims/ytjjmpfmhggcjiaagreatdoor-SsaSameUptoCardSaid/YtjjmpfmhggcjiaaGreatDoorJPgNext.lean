/-
 PgSort, PgNext.
-/
import Derived.Lib.SliceRun
import Derived.Test.YtjjmpfmhggcjiaaGreatDoorJShape
import Derived.Test.YtjjmpfmhggcjiaaGreatDoorJPgIns
set_option linter.unusedSimpArgs false
set_option linter.unusedVariables false
namespace Go.Proofs.YtjjmpfmhggcjiaaGreatDoor
open Go.RowKit Go.Maps
theorem less_same (x y : Int) (w : World) : Calls Tryz.prog 200 #[.int .i64 x, .int .i64 y] w fun e w' => e = .returned (.bool (decide (x < y))) ∧ w' = w := by
 have hn : ∀ (z : Int) (W : World), Calls Tryz.prog 226 #[.int .i64 z] W fun e w' => e = .returned (.bool false) ∧ W = w' := fun z W => by
  go_enter Tryz.func226, Tryz.ntmps226
  go_wp2
  go_ret
  exact ⟨rfl, rfl⟩
 have Hn := Lib.hid hn
 clear hn
 go_enter Tryz.func200, Tryz.ntmps200
 go_wp2_with (go_at_call 226; refine (Hn.out _ _).mono ?_; rintro e w' ⟨rfl, rfl⟩)
 go_ret
 exact ⟨rfl, rfl⟩
/-- The two in order. -/
def lo2 (a b : Int) : Int := if b < a then b else a
def hi2 (a b : Int) : Int := if b < a then a else b
def Two (w : World) (g : Nat) (a b : Int) : Prop := Blk w g 3 #[.int .i64 (lo2 a b), .int .i64 (hi2 a b)]
def SortPost (w : World) (g : Nat) (a b : Int) (e : Ending) (w' : World) : Prop := e = .returned (.tuple #[]) ∧ Two w' g a b ∧ w.grownBy w' (some g)
theorem grown_drewN {a w : World} {row : Option Nat} (h : a.grownBy w row) (n : Nat) : a.grownBy (w.drewN n) row := ⟨h.os, h.tape, h.output, h.size, h.block⟩
theorem blk_drewN {w : World} {g : Nat} {t : TypeId} {cs : Array Value} (h : Blk w g t cs) (k : Nat) : Blk (w.drewN k) g t cs := h
theorem two_less {w : World} {g : Nat} {a b : Int} (hd : decide (b < a) = true) (h : Blk w g 3 #[.int .i64 b, .int .i64 a]) : Two w g a b := by
 have hba := of_decide_eq_true hd
 unfold Two lo2 hi2
 rw [if_pos hba, if_pos hba]
 exact h
theorem two_same {w : World} {g : Nat} {a b : Int} (hd : decide (b < a) = false) (h : Blk w g 3 #[.int .i64 a, .int .i64 b]) : Two w g a b := by
 have hba := of_decide_eq_false hd
 unfold Two lo2 hi2
 rw [if_neg hba, if_neg hba]
 exact h
set_option maxHeartbeats 1000000 in
theorem ins2_any (g : Nat) (a b : Int) (w : World) (h : Blk w g 3 #[.int .i64 a, .int .i64 b]) :
 Calls Tryz.prog 194 #[.slice (some ⟨g, 0, none⟩) 2 2, .int .i64 0, .int .i64 2] w (SortPost w g a b) := by
 have hT : ∀ wr, Two wr g a b = Two wr g a b := fun _ => rfl
 have h0 := h.at0
 have h1 := h.at1
 have f0 := h.frozen 0
 have f1 := h.frozen 1
 have hg := h.lt
 go_enter Tryz.func194, Tryz.ntmps194
 go_wp2
 go_loopw [6] (fun iv wr => (iv = .int .i64 1 ∧ wr = w) ∨ (iv = .int .i64 2 ∧ Two wr g a b ∧ w.grownBy wr (some g))) (fun iv _ => 2 - (intOf iv).toNat)
 case atStart => exact .inl ⟨rfl, rfl⟩
 case round =>
  rcases hrel with ⟨rfl, hwr⟩ | ⟨rfl, hs, hgr⟩
  · subst hwr
    go_wp2
    go_loopw [7] (fun jv w2 => (jv = .int .i64 1 ∧ w2 = wr) ∨ (jv = .int .i64 0 ∧ Two w2 g a b ∧ wr.grownBy w2 (some g))) (fun jv _ => (intOf jv).toNat)
    case atStart => exact .inl ⟨rfl, rfl⟩
    case round =>
     rcases hrel with ⟨rfl, hwr⟩ | ⟨rfl, hs, hgr⟩
     · subst hwr
       by_cases hba : b < a
       · have hd : decide (b < a) = true := by simpa using hba
         go_wp2
         go_quiet ((go_at_call 200; exact Calls.quiet_of_same (less_same _ _ _)))
         go_wp2
         go_region
         go_wp2
         have hs := two_less hd (((blk_drewN h (nq + 1)).set_ 1 (.int .i64 a)).set_ 0 (.int .i64 b))
         go_roundw
         case rel => exact .inr ⟨rfl, hs, ((grown_drewN (World.grownBy.refl _ _) _).trans (grown_setCell _ ⟨g, 1, none⟩ _)).trans (grown_setCell _ ⟨g, 0, none⟩ _)⟩
         case measure => simp [intOf]
       · have hd : decide (b < a) = false := by simpa using hba
         go_wp2
         go_quiet ((go_at_call 200; exact Calls.quiet_of_same (less_same _ _ _)))
         go_wp2
         go_roundw
         case rel => exact .inr ⟨rfl, two_same hd (blk_drewN h _), grown_drewN (World.grownBy.refl _ _) _⟩
         case measure => simp [intOf]
     · go_wp2
       go_quiet (fail)
       go_wp2
       go_roundw
       case rel => exact .inr ⟨rfl, hs, grown_drewN hgr _⟩
       case measure => simp [intOf]
  · go_wp2
    go_end0
    exact ⟨rfl, hs, hgr⟩
def SomeInt (w : World) (e : Ending) (w' : World) : Prop := ∃ k : Int, e = .returned (.int .i64 k) ∧ w = w'
set_option maxRecDepth 1000000 in
theorem len64_2 (w : World) : Calls Tryz.prog 186 #[.int .u64 2] w (SomeInt w) := by
 go_enter Tryz.func186, Tryz.ntmps186
 go_wp2
 go_ret
 exact ⟨_, rfl, rfl⟩
theorem len2 (w : World) : Calls Tryz.prog 169 #[.int .u64 2] w (SomeInt w) := by
 have h := len64_2
 have H := Lib.hid h
 clear h
 go_enter Tryz.func169, Tryz.ntmps169
 go_wp2_with fail
 refine (H.out _).mono ?_
 rintro e w' ⟨k, rfl, rfl⟩
 go_wp2
 go_ret
 exact ⟨_, rfl, rfl⟩
set_option maxRecDepth 100000 in
set_option maxHeartbeats 1000000 in
theorem pdq2_any (g : Nat) (a b : Int) (k : Int) (w : World) (h : Blk w g 3 #[.int .i64 a, .int .i64 b]) :
 Calls Tryz.prog 168 #[.slice (some ⟨g, 0, none⟩) 2 2, .int .i64 0, .int .i64 2, .int .i64 k] w (SortPost w g a b) := by
 go_enter Tryz.func168, Tryz.ntmps168
 go_wp2
 refine wp_loop_rounds 1 ?_
 rw [rounds_succ]
 go_wp2_with fail
 refine (ins2_any g a b _ h).mono ?_
 rintro e w' ⟨rfl, h1, h2⟩
 go_wp2
 exact bodyPost_ret (v := .tuple #[]) (by simp [results, Tryz.results168]) rfl ⟨rfl, h1, h2⟩
theorem sort2_any (g : Nat) (a b : Int) (w : World) (h : Blk w g 3 #[.int .i64 a, .int .i64 b]) :
 Calls Tryz.prog 121 #[.slice (some ⟨g, 0, none⟩) 2 2] w (SortPost w g a b) := by
 have hp := fun k W hW => pdq2_any g a b k W hW
 have Hp := Lib.hid hp
 clear hp
 go_enter Tryz.func121, Tryz.ntmps121
 go_wp2_with fail
 refine (len2 _).mono ?_
 rintro e w' ⟨k, rfl, rfl⟩
 go_wp2_with fail
 refine (Hp.out k _ h).mono ?_
 rintro e w' ⟨rfl, h1, h2⟩
 go_wp2
 first
  | (go_end0; exact ⟨rfl, h1, h2⟩)
  | exact bodyPost_ret (v := .tuple #[]) (by simp [results, Tryz.results121]) rfl ⟨rfl, h1, h2⟩
/-- What Compact leaves of two. -/
def cmp2 (x y : Int) : List Int := if y = x then [x] else [x, y]
def CompPost (w : World) (g : Nat) (x y : Int) (e : Ending) (w' : World) : Prop := ∃ n, n ≤ 2 ∧ e = .returned (.slice (some ⟨g, 0, none⟩) n 2) ∧ Rd w' (g + 1) 1 (some ⟨g, 0, none⟩) n (ints (cmp2 x y)) ∧ w.grownBy w' (some g)
theorem rd_pre {w : World} {g : Nat} {t : TypeId} {xs ys : List Value} (h : Blk w g t ⟨xs ++ ys⟩) {B size n : Nat} (hl : xs.length = n * size) (hB : g < B) : Rd w B size (some ⟨g, 0, none⟩) n xs :=
 ⟨hl, fun _ => ⟨g, 0, rfl, hB, fun j u hu => by
  have hj := (List.getElem?_eq_some_iff.1 hu).1
  rw [Nat.zero_add, h.cell]
  simpa [List.getElem?_append_left hj] using hu⟩⟩
theorem zeroInt (w : World) : (zeroValue 3).run Tryz.prog w = .ok (.int .i64 0) w := by kernel_rfl
theorem clear2 {g : Nat} {x y : Int} {w : World} (h : Blk w g 3 #[.int .i64 x, .int .i64 y]) (ty : TypeId) (k : Nat) :
 (Builtin.clear_ #[47] ty #[.slice (some ⟨g, 1, none⟩) 1 1]).run Tryz.prog (w.drewN k) = .ok (.tuple #[]) ((w.drewN k).setCells g 1 [.int .i64 0]) :=
 Lib.run_clear_slice (w.drewN k) 47 3 ty (.int .i64 0) Tryz.underlying47 zeroInt rfl rfl g 1 1 1 (by omega) (fun j hj => by
  obtain rfl : j = 0 := by omega
  rw [(blk_drewN h k).cell]; rfl) (fun j hj => (blk_drewN h k).frozen _)
set_option maxRecDepth 1000000 in
set_option maxHeartbeats 1000000 in
theorem compact2_any (g : Nat) (x y : Int) (w : World) (h : Blk w g 3 #[.int .i64 x, .int .i64 y]) :
 Calls Tryz.prog 122 #[.slice (some ⟨g, 0, none⟩) 2 2] w (CompPost w g x y) := by
 have h0 := h.at0
 have h1 := h.at1
 have f0 := h.frozen 0
 have f1 := h.frozen 1
 have hg := h.lt
 by_cases hxy : y = x
 · have hc : cmp2 x y = [x] := if_pos hxy
   have hd : (y == x) = true := by simp [hxy]
   have hclr := clear2 h
   have Hc := Lib.hid hc
   clear hc hxy
   go_enter Tryz.func122, Tryz.ntmps122
   go_wp2
   refine wp_loop_rounds 1 ?_
   rw [rounds_succ]
   go_wp2
   go_quiet (fail)
   go_wp2
   refine wp_loop_rounds 1 ?_
   rw [rounds_succ]
   go_wp2
   go_ret
   have hs := (blk_drewN h nq).set_ 1 (.int .i64 0)
   exact ⟨1, by omega, rfl, by rw [Hc.out]; exact rd_pre (xs := [.int .i64 x]) (ys := [.int .i64 0]) hs rfl (by omega), (grown_drewN (World.grownBy.refl _ _) nq).trans (grown_setCell _ ⟨g, 1, none⟩ _)⟩
 · have hc : cmp2 x y = [x, y] := if_neg hxy
   have hd : (y == x) = false := by simp [hxy]
   have Hc := Lib.hid hc
   clear hc hxy
   go_enter Tryz.func122, Tryz.ntmps122
   go_wp2
   go_loopw [3] (fun kv wr => (kv = .int .i64 1 ∧ wr = w) ∨ (kv = .int .i64 2 ∧ Blk wr g 3 #[.int .i64 x, .int .i64 y] ∧ w.grownBy wr (some g))) (fun kv _ => 2 - (intOf kv).toNat)
   case atStart => exact .inl ⟨rfl, rfl⟩
   case round =>
    rcases hrel with ⟨rfl, hwr⟩ | ⟨rfl, hs, hgr⟩
    · subst hwr
      go_wp2
      go_quiet (fail)
      go_wp2
      go_roundw
      case rel => exact .inr ⟨rfl, blk_drewN h _, grown_drewN (World.grownBy.refl _ _) _⟩
      case measure => simp [intOf]
    · go_wp2
      go_ret
      exact ⟨2, by omega, rfl, by rw [Hc.out]; exact Blk.rd hs rfl (by omega), hgr⟩
end Go.Proofs.YtjjmpfmhggcjiaaGreatDoor
namespace Go.Proofs.YtjjmpfmhggcjiaaGreatDoor
open Go.RowKit Go.Maps
def nextF (m : Mth) (pc : Int) : List Int :=
 if inB pc m.code.length = false then []
 else if (m.code.getD pc.toNat default).op = 33 then []
 else if (m.code.getD pc.toNat default).op = 22 then [(m.code.getD pc.toNat default).a]
 else if (m.code.getD pc.toNat default).op = 23 then cmp2 (lo2 (m.code.getD pc.toNat default).a (pc + 1)) (hi2 (m.code.getD pc.toNat default).a (pc + 1))
 else [pc + 1]
def RowPost (w : World) (l : List Int) (e : Ending) (w' : World) : Prop := ∃ A n c, n ≤ 2 ∧ e = .returned (.slice A n c) ∧ Rd w' w'.heap.size 1 A n (ints l) ∧ Below w.heap.size w w'
theorem below_of_grown {B g : Nat} {w w' : World} (h : w.grownBy w' (some g)) (hg : B ≤ g) (hB : B ≤ w.heap.size) : Below B w w' := (Below.refl B w).grown h hB (fun j hj => by
 have : g = j := by simpa using hj
 omega)
set_option maxRecDepth 1000000 in
set_option maxHeartbeats 2000000 in
theorem next_any (A : Option Addr) (c : Nat) (m : Mth) (pc : Int) (w : World) (hr : Rd w w.heap.size 4 A m.code.length (icells m.code)) (hm : m.code.length ≤ 9223372036854775807) :
 Calls Tryz.prog 71 #[mv A c m, .int .i64 pc] w (RowPost w (nextF m pc)) := by
 have hF : nextF m pc = if inB pc m.code.length = false then []
 else if (m.code.getD pc.toNat default).op = 33 then []
 else if (m.code.getD pc.toNat default).op = 22 then [(m.code.getD pc.toNat default).a]
 else if (m.code.getD pc.toNat default).op = 23 then cmp2 (lo2 (m.code.getD pc.toNat default).a (pc + 1)) (hi2 (m.code.getD pc.toNat default).a (pc + 1))
 else [pc + 1] := rfl
 have hP : ∀ l A n c w', nextF m pc = l → n ≤ 2 → Rd w' w'.heap.size 1 A n (ints l) → Below w.heap.size w w' → RowPost w (nextF m pc) (.returned (.slice A n c)) w' := fun l A n c w' e h1 h2 h3 => ⟨A, n, c, h1, rfl, by rw [e]; exact h2, h3⟩
 have HP := Lib.hid hP
 clear hP
 generalize RowPost w (nextF m pc) = Post at *
 cases hi : inB pc m.code.length with
 | false =>
   rw [hi] at hF
   have HF := Lib.hid hF
   clear hF
   go_enter Tryz.func71, Tryz.ntmps71
   go_wp2_with (go_at_call 116; refine (in_any _ _ _).mono ?_; rintro e w' ⟨rfl, rfl⟩)
   exact HP.out [] _ _ _ _ HF.out (by omega) (Rd.nil _ _ _ _) ((Below.refl _ _).alloc (Nat.le_refl _) _)
 | true =>
   have hx := in_true hi
   obtain ⟨k, rfl⟩ : ∃ k : Nat, pc = k := ⟨pc.toNat, by omega⟩
   have hkl : k < m.code.length := by omega
   obtain ⟨b, off, rfl, hbb, x0, x1, x2, x3⟩ := ins_at hr hkl
   have k0 : (0 : Int) ≤ k := by omega
   have k1 : (k : Int) < m.code.length := by omega
   rw [if_neg (by simp [hi])] at hF
   simp only [Int.toNat_natCast] at hF
   generalize m.code.getD k default = x at *
   obtain ⟨op, xa, xb, xn⟩ := x
   simp only at hF x0 x1 x2 x3
   have hc : op = 33 ∨ op = 22 ∨ op = 23 ∨ (op ≠ 33 ∧ op ≠ 22 ∧ op ≠ 23) := by omega
   rcases hc with e | e | e | ⟨e1, e2, e3⟩
   · have HF := Lib.hid (show nextF m k = [] by rw [hF, if_pos e])
     have f1 : (op == 33) = true := by simp [e]
     clear hF e
     go_enter Tryz.func71, Tryz.ntmps71
     go_wp2_with (go_at_call 116; refine (in_any _ _ _).mono ?_; rintro e w' ⟨rfl, rfl⟩)
     exact HP.out [] _ _ _ _ HF.out (by omega) (Rd.nil _ _ _ _) (((Below.refl _ _).alloc (Nat.le_refl _) _).alloc (by simp) _)
   · have HF := Lib.hid (show nextF m k = [xa] by rw [hF, if_neg (by omega), if_pos e])
     have f1 : (op == 33) = false := by simp; omega
     have f2 : (op == 22) = true := by simp [e]
     clear hF e
     go_enter Tryz.func71, Tryz.ntmps71
     go_wp2_with (go_at_call 116; refine (in_any _ _ _).mono ?_; rintro e w' ⟨rfl, rfl⟩)
     exact HP.out [xa] _ _ _ _ HF.out (by omega) (Blk.rd (xs := ints [xa]) (Blk.newAt (by simp) _ _) rfl (by simp)) ((((Below.refl _ _).alloc (Nat.le_refl _) _).alloc (by simp) _).alloc (by simp; omega) _)
   · have HF := Lib.hid (show nextF m k = cmp2 (lo2 xa (k + 1)) (hi2 xa (k + 1)) by rw [hF, if_neg (by omega), if_neg (by omega), if_pos e])
     have f1 : (op == 33) = false := by simp; omega
     have f2 : (op == 22) = false := by simp; omega
     have f3 : (op == 23) = true := by simp [e]
     clear hF e
     go_enter Tryz.func71, Tryz.ntmps71
     go_wp2_with (go_at_call 116; refine (in_any _ _ _).mono ?_; rintro e w' ⟨rfl, rfl⟩)
     have hw3 := (((Below.refl w.heap.size w).alloc (Nat.le_refl _) (.cells #[.string m.pa, .string m.lo, .string m.re, .slice (some ⟨b, off, none⟩) m.code.length c] 90)).alloc (by simp) (.cells #[.int .i64 op, .int .i64 xa, .int .i64 xb, .int .i64 xn] 118)).alloc (by simp; omega) (.cells #[.int .i64 xa, .int .i64 ((k : Int) + 1)] 3)
     refine (sort2_any _ xa (k + 1) _ (Blk.newAt (by simp) _ _)).mono ?_
     rintro e w4 ⟨rfl, h4, g4⟩
     have hw4 := hw3.trans (below_of_grown g4 (by omega) hw3.size)
     go_wp2_with fail
     refine (compact2_any _ _ _ _ h4).mono ?_
     rintro e w5 ⟨n5, hn5, rfl, r5, g5⟩
     have hw5 := hw4.trans (below_of_grown g5 (by omega) hw4.size)
     go_wp2
     exact HP.out _ _ _ _ _ HF.out hn5 (r5.more (by have := h4.lt; have := g5.size; omega)) hw5
   · have HF := Lib.hid (show nextF m k = [(k : Int) + 1] by rw [hF, if_neg e1, if_neg e2, if_neg e3])
     have f1 : (op == 33) = false := by simp; omega
     have f2 : (op == 22) = false := by simp; omega
     have f3 : (op == 23) = false := by simp; omega
     clear hF e1 e2 e3
     go_enter Tryz.func71, Tryz.ntmps71
     go_wp2_with (go_at_call 116; refine (in_any _ _ _).mono ?_; rintro e w' ⟨rfl, rfl⟩)
     exact HP.out [(k : Int) + 1] _ _ _ _ HF.out (by omega) (Blk.rd (xs := ints [(k : Int) + 1]) (Blk.newAt (by simp) _ _) rfl (by simp)) ((((Below.refl _ _).alloc (Nat.le_refl _) _).alloc (by simp) _).alloc (by simp; omega) _)
end Go.Proofs.YtjjmpfmhggcjiaaGreatDoor
