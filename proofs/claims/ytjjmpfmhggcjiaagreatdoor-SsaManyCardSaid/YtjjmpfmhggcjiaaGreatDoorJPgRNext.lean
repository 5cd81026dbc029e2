/-
 PgNext, Sorted, PgRNext.
-/
import Derived.Deep.RegionLaw
import Derived.Deep.OwnRows
import Derived.Deep.CutBlock
import Derived.IntWalk
import Derived.Deep.Onto
import Derived.Deep.DeepCutAuto
import Derived.Test.YtjjmpfmhggcjiaaGreatDoorJPgIns
import Derived.Test.YtjjmpfmhggcjiaaGreatDoorJShape
import Derived.Test.YtjjmpfmhggcjiaaGreatDoorJSortLib
import Derived.Test.YtjjmpfmhggcjiaaGreatDoorJFrame
set_option linter.unusedSimpArgs false
set_option linter.unusedVariables false
namespace Go.Proofs.YtjjmpfmhggcjiaaGreatDoor
open Go.RowKit Go.Maps
def nextF (m : Mth) (pc : Int) : List Int :=
 if inB pc m.code.length = false then []
 else if (m.code.getD pc.toNat default).op = 33 then []
 else if (m.code.getD pc.toNat default).op = 22 then [(m.code.getD pc.toNat default).a]
 else if (m.code.getD pc.toNat default).op = 23 then cmp2 (lo2 (m.code.getD pc.toNat default).a (pc + 1)) (hi2 (m.code.getD pc.toNat default).a (pc + 1))
 else [pc + 1]
def RowPost (w : World) (l : List Int) (e : Ending) (w' : World) : Prop := ∃ A n c, n ≤ 2 ∧ e = .returned (.slice A n c) ∧ Rd w' w'.heap.size 1 A n (ints l) ∧ Below w.heap.size w w'
theorem below_of_grown {B g : Nat} {w w' : World} (h : w.grownBy w' (some g)) (hg : B ≤ g) (hB : B ≤ w.heap.size) : Below B w w' := (Below.refl B w).grown h hB (fun j hj => by
 have : g = j := by simpa using hj
 omega)
set_option maxRecDepth 1000000 in
set_option maxHeartbeats 2000000 in
theorem next_any (A : Option Addr) (c : Nat) (m : Mth) (pc : Int) (w : World) (hr : Rd w w.heap.size 4 A m.code.length (icells m.code)) (hm : m.code.length ≤ 9223372036854775807) :
 Calls Tryz.prog 71 #[mv A c m, .int .i64 pc] w (RowPost w (nextF m pc)) := by
 have hF : nextF m pc = if inB pc m.code.length = false then []
 else if (m.code.getD pc.toNat default).op = 33 then []
 else if (m.code.getD pc.toNat default).op = 22 then [(m.code.getD pc.toNat default).a]
 else if (m.code.getD pc.toNat default).op = 23 then cmp2 (lo2 (m.code.getD pc.toNat default).a (pc + 1)) (hi2 (m.code.getD pc.toNat default).a (pc + 1))
 else [pc + 1] := rfl
 have hP : ∀ l A n c w', nextF m pc = l → n ≤ 2 → Rd w' w'.heap.size 1 A n (ints l) → Below w.heap.size w w' → RowPost w (nextF m pc) (.returned (.slice A n c)) w' := fun l A n c w' e h1 h2 h3 => ⟨A, n, c, h1, rfl, by rw [e]; exact h2, h3⟩
 have HP := Lib.hid hP
 clear hP
 generalize RowPost w (nextF m pc) = Post at *
 cases hi : inB pc m.code.length with
 | false =>
   rw [hi] at hF
   have HF := Lib.hid hF
   clear hF
   go_enter Tryz.func71, Tryz.ntmps71
   go_wp2_with (go_at_call 116; refine (in_any _ _ _).mono ?_; rintro e w' ⟨rfl, rfl⟩)
   exact HP.out [] _ _ _ _ HF.out (by omega) (Rd.nil _ _ _ _) ((Below.refl _ _).alloc (Nat.le_refl _) _)
 | true =>
   have hx := in_true hi
   obtain ⟨k, rfl⟩ : ∃ k : Nat, pc = k := ⟨pc.toNat, by omega⟩
   have hkl : k < m.code.length := by omega
   obtain ⟨b, off, rfl, hbb, x0, x1, x2, x3⟩ := ins_at hr hkl
   have k0 : (0 : Int) ≤ k := by omega
   have k1 : (k : Int) < m.code.length := by omega
   rw [if_neg (by simp [hi])] at hF
   simp only [Int.toNat_natCast] at hF
   generalize m.code.getD k default = x at *
   obtain ⟨op, xa, xb, xn⟩ := x
   simp only at hF x0 x1 x2 x3
   have hc : op = 33 ∨ op = 22 ∨ op = 23 ∨ (op ≠ 33 ∧ op ≠ 22 ∧ op ≠ 23) := by omega
   rcases hc with e | e | e | ⟨e1, e2, e3⟩
   · have HF := Lib.hid (show nextF m k = [] by rw [hF, if_pos e])
     have f1 : (op == 33) = true := by simp [e]
     clear hF e
     go_enter Tryz.func71, Tryz.ntmps71
     go_wp2_with (go_at_call 116; refine (in_any _ _ _).mono ?_; rintro e w' ⟨rfl, rfl⟩)
     exact HP.out [] _ _ _ _ HF.out (by omega) (Rd.nil _ _ _ _) (((Below.refl _ _).alloc (Nat.le_refl _) _).alloc (by simp) _)
   · have HF := Lib.hid (show nextF m k = [xa] by rw [hF, if_neg (by omega), if_pos e])
     have f1 : (op == 33) = false := by simp; omega
     have f2 : (op == 22) = true := by simp [e]
     clear hF e
     go_enter Tryz.func71, Tryz.ntmps71
     go_wp2_with (go_at_call 116; refine (in_any _ _ _).mono ?_; rintro e w' ⟨rfl, rfl⟩)
     exact HP.out [xa] _ _ _ _ HF.out (by omega) (Blk.rd (xs := ints [xa]) (Blk.newAt (by simp) _ _) rfl (by simp)) ((((Below.refl _ _).alloc (Nat.le_refl _) _).alloc (by simp) _).alloc (by simp; omega) _)
   · have HF := Lib.hid (show nextF m k = cmp2 (lo2 xa (k + 1)) (hi2 xa (k + 1)) by rw [hF, if_neg (by omega), if_neg (by omega), if_pos e])
     have f1 : (op == 33) = false := by simp; omega
     have f2 : (op == 22) = false := by simp; omega
     have f3 : (op == 23) = true := by simp [e]
     clear hF e
     go_enter Tryz.func71, Tryz.ntmps71
     go_wp2_with (go_at_call 116; refine (in_any _ _ _).mono ?_; rintro e w' ⟨rfl, rfl⟩)
     have hw3 := (((Below.refl w.heap.size w).alloc (Nat.le_refl _) (.cells #[.string m.pa, .string m.lo, .string m.re, .slice (some ⟨b, off, none⟩) m.code.length c] 90)).alloc (by simp) (.cells #[.int .i64 op, .int .i64 xa, .int .i64 xb, .int .i64 xn] 118)).alloc (by simp; omega) (.cells #[.int .i64 xa, .int .i64 ((k : Int) + 1)] 3)
     refine (sort2_any _ xa (k + 1) _ (Blk.newAt (by simp) _ _)).mono ?_
     rintro e w4 ⟨rfl, h4, g4⟩
     have hw4 := hw3.trans (below_of_grown g4 (by omega) hw3.size)
     go_wp2_with fail
     refine (compact2_any _ _ _ _ h4).mono ?_
     rintro e w5 ⟨n5, hn5, rfl, r5, g5⟩
     have hw5 := hw4.trans (below_of_grown g5 (by omega) hw4.size)
     go_wp2
     exact HP.out _ _ _ _ _ HF.out hn5 (r5.more (by have := h4.lt; have := g5.size; omega)) hw5
   · have HF := Lib.hid (show nextF m k = [(k : Int) + 1] by rw [hF, if_neg e1, if_neg e2, if_neg e3])
     have f1 : (op == 33) = false := by simp; omega
     have f2 : (op == 22) = false := by simp; omega
     have f3 : (op == 23) = false := by simp; omega
     clear hF e1 e2 e3
     go_enter Tryz.func71, Tryz.ntmps71
     go_wp2_with (go_at_call 116; refine (in_any _ _ _).mono ?_; rintro e w' ⟨rfl, rfl⟩)
     exact HP.out [(k : Int) + 1] _ _ _ _ HF.out (by omega) (Blk.rd (xs := ints [(k : Int) + 1]) (Blk.newAt (by simp) _ _) rfl (by simp)) ((((Below.refl _ _).alloc (Nat.le_refl _) _).alloc (by simp) _).alloc (by simp; omega) _)
end Go.Proofs.YtjjmpfmhggcjiaaGreatDoor
namespace Go.Proofs.YtjjmpfmhggcjiaaGreatDoor
open Go.RowKit Go.Maps
def SortedPost (w : World) (l : List Int) (e : Ending) (w' : World) : Prop := ∃ A' c', e = .returned (.slice A' (sortS l).length c') ∧ Rd w' w'.heap.size 1 A' (sortS l).length (ints (sortS l)) ∧ Below w.heap.size w w'
theorem own_forms {w : World} {base : Nat} {e : TypeId} {size n c : Nat} {A : Option Addr} {xs : List Value} (h : w.ownsRow base e size (.slice A n c) n xs) : (A = none ∧ n = 0 ∧ c = 0) ∨ ∃ g, A = some ⟨g, 0, none⟩ ∧ n ≤ c ∧ base ≤ g ∧ g < w.heap.size := by
 rcases h.2 with ⟨h0, h1⟩ | ⟨g, cap, cur, hv, hb, hh, hnc, _⟩
 · cases h0
   exact .inl ⟨rfl, rfl, rfl⟩
 · cases hv
   exact .inr ⟨g, rfl, hnc, hb, (Array.getElem?_eq_some_iff.1 hh).1⟩
theorem infoIntR : (Tryz.prog.info? 3).map (fun i => (i.zero, i.size, i.bytes)) = some (some (.int .i64 0), 1, 8) := by kernel_rfl
theorem own_drewN {w : World} {base : Nat} {e : TypeId} {size n : Nat} {v : Value} {xs : List Value} (h : w.ownsRow base e size v n xs) (k : Nat) : (w.drewN k).ownsRow base e size v n xs := h
theorem Rd.take {w : World} {B n : Nat} {A : Option Addr} {l : List Int} (h : Rd w B 1 A n (ints l)) {k : Nat} (hk : k ≤ n) : Rd w B 1 A k (ints (l.take k)) := by
 have hl : l.length = n := by simpa [ints] using h.1
 refine ⟨by simp [ints]; omega, fun h0 => ?_⟩
 obtain ⟨b, off, e, hb, hc⟩ := h.2 (by omega)
 refine ⟨b, off, e, hb, fun j u hu => hc j u ?_⟩
 have hj : j < k := by
  have := (List.getElem?_eq_some_iff.1 hu).1
  simp [ints] at this; omega
 rw [← hu]
 simp [ints, List.getElem?_take, hj]
theorem Rd.dropG {w : World} {B n g : Nat} {l : List Int} (h : Rd w B 1 (some ⟨g, 0, none⟩) n (ints l)) {k : Nat} (hk : k ≤ n) : Rd w B 1 (some ⟨g, k, none⟩) (n - k) (ints (l.drop k)) := by
 have hl : l.length = n := by simpa [ints] using h.1
 refine ⟨by simp [ints]; omega, fun h0 => ?_⟩
 obtain ⟨b, off, e, hb, hc⟩ := h.2 (by omega)
 injection e with e
 injection e with e1 e2
 subst e1 e2
 refine ⟨g, k, rfl, hb, fun j u hu => ?_⟩
 have := hc (k + j) u (by rw [← hu]; simp [ints, List.getElem?_drop])
 rwa [Nat.zero_add] at this
theorem ints_one {u : Value} {l : List Int} (h : u ∈ ints l) : u.oneCell' = true := by
 obtain ⟨x, _, rfl⟩ := List.mem_map.1 h
 rfl
theorem ints_rd_at {w : World} {B n : Nat} {A : Option Addr} {l : List Int} (h : Rd w B 1 A n (ints l)) {k : Nat} (hk : k < n) : ∃ b off, A = some ⟨b, off, none⟩ ∧ b < B ∧ w.cell? ⟨b, off + k, none⟩ = some (.int .i64 (l[k]?.getD 0)) := ints_at h hk
set_option maxRecDepth 100000 in
set_option maxHeartbeats 4000000 in
theorem sorted_any (A : Option Addr) (c : Nat) (l : List Int) (w : World) (hr : Rd w w.heap.size 1 A l.length (ints l)) (hl : l.length ≤ 100000) :
 Calls Tryz.prog 156 #[.slice A l.length c] w (SortedPost w l) := by
 have hPP : ∀ A' c' w' n', n' = (sortS l).length → Rd w' w'.heap.size 1 A' n' (ints (sortS l)) → Below w.heap.size w w' → SortedPost w l (.returned (.slice A' n' c')) w' := fun A' c' w' n' e h1 h2 => by subst e; exact ⟨A', c', rfl, h1, h2⟩
 have HP := Lib.hid hPP
 clear hPP
 generalize SortedPost w l = Post at *
 obtain ⟨ii, hi1, hi2, hi3, hi4⟩ := info_parts infoIntR
 have Hi1 := Lib.hid hi1
 have Hi2 := Lib.hid hi2
 have Hi3 := Lib.hid hi3
 have Hi4 := Lib.hid hi4
 clear hi1 hi2 hi3 hi4
 go_enter Tryz.func156, Tryz.ntmps156
 go_wp2
 go_loopw [3, 4] (fun v iv wr => ∃ (i : Nat) (A' : Option Addr) (c' n : Nat), i ≤ l.length ∧ iv = .int .i64 i ∧ v = .slice A' n c' ∧ Hid ((sortS (l.take i)).length = n) ∧ n ≤ i ∧ wr.ownsRow w.heap.size 3 1 (.slice A' n c') n (ints (sortS (l.take i))) ∧ Below w.heap.size w wr) (fun _ iv _ => l.length - (intOf iv).toNat)
 case atStart => exact ⟨0, none, 0, 0, Nat.zero_le _, rfl, rfl, Lib.hid rfl, Nat.le_refl _, World.ownsRow_nil _ _ _ _, Below.refl _ _⟩
 case round =>
  obtain ⟨i, A', c', n, hi, rfl, rfl, Hn, hni, hown, hb⟩ := hrel
  have hz := hb.size
  by_cases hlt : i < l.length
  · obtain ⟨b, off, rfl, hbb, x0⟩ := ints_rd_at (hr.below hb (Nat.le_refl _)) hlt
    have Hs := Lib.hid (show sortS (l.take (i + 1)) = insS (sortS (l.take i)) (l[i]?.getD 0) by
     rw [List.take_succ_eq_append_getElem hlt, sortS_snoc, List.getElem?_eq_getElem hlt]; rfl)
    generalize l[i]?.getD 0 = x at *
    generalize sortS (l.take i) = out at *
    obtain ⟨A2, d2, hA2, hrd⟩ := Rd.of_own hown
    injection hA2 with hA2 _ hd2
    subst hA2 hd2
    have k0 : (0 : Int) ≤ i := by omega
    have k1 : (i : Int) < l.length := by omega
    go_upto_block 2 with (fail)
    go_cut [5] from 13 to 29 (fun v wx => ∃ k q : Nat, v = .int .i64 k ∧ k ≤ n ∧ Hid (posS out x = k) ∧ wx = wr.drewN q)
    case first =>
     go_wp2
     go_loopw [5] (fun v w2 => ∃ k q : Nat, v = .int .i64 k ∧ k ≤ n ∧ Hid (∀ j, j < k → out[j]?.getD 0 < x) ∧ w2 = wr.drewN q) (fun v _ => n - (intOf v).toNat)
     case atStart => exact ⟨0, 0, rfl, Nat.zero_le _, Lib.hid (fun j hj => by omega), rfl⟩
     case round =>
      obtain ⟨k, q, rfl, hk, Hk, rfl⟩ := hrel
      have j0 : (0 : Int) ≤ k := by omega
      by_cases hkn : k < n
      · obtain ⟨bo, oo, rfl, hbo, y0⟩ := ints_rd_at hrd hkn
        have j1 : (k : Int) < n := by omega
        have g1 : decide (k < n) = true := by simpa using hkn
        cases hlx : decide (out[k]?.getD 0 < x) with
        | true =>
          have Hlx := Lib.hid (of_decide_eq_true hlx)
          go_wp2
          go_quiet (fail)
          go_wp2
          go_roundw
          case rel => exact ⟨k + 1, _, by go_num, by omega, Lib.hid (fun j hj => by
           by_cases e : j = k
           · subst e; exact Hlx.out
           · exact Hk.out j (by omega)), rfl⟩
          case measure => simp [intOf]; omega
        | false =>
          have Hlx := Lib.hid (of_decide_eq_false hlx)
          go_wp2
          go_quiet (fail)
          go_wp2
          go_meet
          exact ⟨k, _, rfl, by omega, Lib.hid (posS_at (by rw [Hn.out]; omega) Hk.out (.inr (by have := Hlx.out; omega))), by first | rfl | exact World.drewN_drewN _ _ _⟩
      · have g1 : decide (k < n) = false := by simpa using hkn
        have Hp := Lib.hid (posS_at (out := out) (x := x) (k := k) (by rw [Hn.out]; omega) Hk.out (.inl (by rw [Hn.out]; omega)))
        go_wp2
        go_quiet (fail)
        go_wp2
        go_meet
        exact ⟨k, _, rfl, by omega, Hp, by first | rfl | exact World.drewN_drewN _ _ _⟩
    case rest =>
     obtain ⟨k, q, rfl, hk, Hp, rfl⟩ := hcut
     have hbq := below_drewN hb q
     have hownq := own_drewN hown q
     have hrdq : Rd (wr.drewN q) (wr.drewN q).heap.size 1 A' n (ints out) := hrd.drewN q
     have x0q : (wr.drewN q).cell? ⟨b, off + i, none⟩ = some (.int .i64 x) := x0
     clear hb hown hrd x0
     have hzq : w.heap.size ≤ (wr.drewN q).heap.size := hz
     generalize wr.drewN q = w2 at *
     have j0 : (0 : Int) ≤ k := by omega
     have hle := posS_le out x
     have hnn := Hn.out
     by_cases hyes : out[k]? = some x
     · have Hr := Lib.hid (show sortS (l.take (i + 1)) = out by rw [Hs.out]; unfold insS; rw [Hp.out, if_pos hyes])
       have hkn : k < n := by have := (List.getElem?_eq_some_iff.1 hyes).1; omega
       obtain ⟨bo, oo, rfl, hbo, y0⟩ := ints_rd_at hrdq hkn
       rw [hyes] at y0
       simp only [Option.getD_some] at y0
       have j1 : (k : Int) < n := by omega
       have g1 : decide (k < n) = true := by simpa using hkn
       clear hyes
       go_wp2
       go_quiet (fail)
       go_wp2
       go_roundw
       case rel => exact ⟨i + 1, _, c', n, by omega, by go_num, rfl, Lib.hid (by rw [Hr.out]; exact Hn.out), by omega, by rw [Hr.out]; exact own_drewN hownq _, below_drewN hbq _⟩
       case measure => simp [intOf]; omega
     · have Hr := Lib.hid (show sortS (l.take (i + 1)) = out.take k ++ [x] ++ out.drop k by rw [Hs.out]; unfold insS; rw [Hp.out, if_neg hyes])
       go_upto_region 8 with (fail)
       go_cut [44] from 30 to 44 (fun v wx => v = .bool false ∧ ∃ r, wx = w2.drewN r)
       case first =>
        by_cases hkn : k < n
        · obtain ⟨bo, oo, rfl, hbo, y0⟩ := ints_rd_at hrdq hkn
          have hxy : (out[k]?.getD 0 == x) = false := by
           have hg : out[k]? = some (out[k]'(by omega)) := List.getElem?_eq_getElem _
           rw [hg] at hyes
           simp only [hg, Option.getD_some, beq_eq_false_iff_ne]
           exact fun e => hyes (by rw [e])
          generalize out[k]?.getD 0 = y at *
          have j1 : (k : Int) < n := by omega
          have g1 : decide (k < n) = true := by simpa using hkn
          clear hyes
          go_wp2
          go_quiet (fail)
          go_wp2
          go_meet
          exact ⟨rfl, _, rfl⟩
        · have g1 : decide (k < n) = false := by simpa using hkn
          clear hyes
          go_wp2
          go_quiet (fail)
          go_wp2
          go_meet
          exact ⟨rfl, _, rfl⟩
       case rest =>
        obtain ⟨rfl, r, rfl⟩ := hcut
        have hb3 := below_drewN hbq r
        have hown3 := own_drewN hownq r
        have hrd3 : Rd (w2.drewN r) (w2.drewN r).heap.size 1 A' n (ints out) := hrdq.drewN r
        have x03 : (w2.drewN r).cell? ⟨b, off + i, none⟩ = some (.int .i64 x) := x0q
        clear hbq hownq hrdq x0q hyes Hp Hs
        have hz3 : w.heap.size ≤ (w2.drewN r).heap.size := hzq
        go_upto_region 9 with (fail)
        generalize w2.drewN r = w3 at *
        have hmk : ∀ W : World, (Instr.makeSlice 47 (.int .i64 0) (.int .i64 ((n : Int) + 1))).run Tryz.prog W = .ok (.slice (some ⟨W.heap.size, 0, none⟩) 0 (n + 1)) (W.alloc (.cells (madeCells #[.int .i64 0] (n + 1)) 3)) := fun W => by
         have h := run_make (P := Tryz.prog) W 47 3 ii (.int .i64 0) Tryz.underlying47 Hi1.out Hi2.out .i64 .i64 0 ((n : Int) + 1) (by omega) (by omega) (by rw [Hi4.out]; omega) (by omega)
         have e1 : ((n : Int) + 1).toNat = n + 1 := by omega
         rw [e1, Hi3.out, Nat.mul_one] at h
         exact h
        have hmade := fun W (hW : w3.heap.size ≤ W.heap.size) => World.ownsRow_made (base := w3.heap.size) (e := 3) (size := 1) W (madeCells #[.int .i64 0] (n + 1)) (n + 1) hW (by unfold maxLen; omega) (by rw [size_madeCells]; omega)
        have Hmade := Lib.hid hmade
        have Hmk := Lib.hid hmk
        have hwrap : IntKind.i64.wrap ((n : Int) + 1) = (n : Int) + 1 := IntWalk.i64_in _ (by omega)
        have Hwrap := Lib.hid hwrap
        clear hmade hmk hwrap
        have hforms := own_forms hown3
        go_cut [6] from 45 to 52 (fun v wx => ∃ A5 c5, v = .slice A5 k c5 ∧ wx.ownsRow w3.heap.size 3 1 (.slice A5 k c5) k (ints (out.take k)) ∧ Below w3.heap.size w3 wx)
        case first =>
         rcases hforms with ⟨rfl, rfl, rfl⟩ | ⟨g, rfl, hnc, hgb, hgl⟩
         · obtain rfl : k = 0 := by omega
           have hrt := hrd3.take hk
           have hw1 : IntKind.i64.wrap 1 = 1 := by decide
           have hmk : ∀ W : World, (Instr.makeSlice 47 (.int .i64 0) (.int .i64 1)).run Tryz.prog W = .ok (.slice (some ⟨W.heap.size, 0, none⟩) 0 1) (W.alloc (.cells (madeCells #[.int .i64 0] 1) 3)) := Hmk.out
           go_region_law ((refine step_append_rd rfl (.tmp 48) (.tmp 51) 47 rfl w3.heap.size 3 ii _ 8 Tryz.underlying47 Hi1.out Hi2.out Hi3.out Hi4.out rfl (.slice (some ⟨w3.heap.size, 0, none⟩) 0 1) 0 [] (by rfl) (Hmade.out _ (by simp)) w3.heap.size none 0 0 (ints (out.take 0)) (by rfl) ((hrt.alloc (Nat.le_refl _) _).drew) (fun u hu => ints_one hu) (by unfold maxLen; omega) (by omega) (by simp) ?_; intro A5 c5 w5 hown5 hgr5))
           all_goals
            go_wp2
            go_meet
            have hS5 := ((Below.refl w3.heap.size w3).alloc (Nat.le_refl _) (.cells (madeCells #[.int .i64 0] 1) 3)).drew.grown hgr5 (by simp) (fun j hj => by simp [Value.ownBlock] at hj; omega)
            simp only [Nat.zero_add, List.nil_append] at hown5
            exact ⟨A5, c5, by simp, hown5, hS5⟩
         · have hrt := hrd3.take hk
           have j1 : (k : Int) ≤ n := by omega
           have j2 : (n : Int) ≤ c' := by omega
           have j3 : k ≤ c' := by omega
           have hmk := Hmk.out
           have hwrap := Hwrap.out
           go_region_law ((refine step_append_rd rfl (.tmp 48) (.tmp 51) 47 rfl w3.heap.size 3 ii _ 8 Tryz.underlying47 Hi1.out Hi2.out Hi3.out Hi4.out rfl (.slice (some ⟨w3.heap.size, 0, none⟩) 0 (n + 1)) 0 [] (by rfl) (Hmade.out _ (by simp)) w3.heap.size (some ⟨g, 0, none⟩) k c' (ints (out.take k)) (by rfl) ((hrt.alloc (Nat.le_refl _) _).drew) (fun u hu => ints_one hu) (by unfold maxLen; omega) (by omega) (by simp) ?_; intro A5 c5 w5 hown5 hgr5))
           all_goals
            go_wp2
            go_meet
            have hS5 := ((Below.refl w3.heap.size w3).alloc (Nat.le_refl _) (.cells (madeCells #[.int .i64 0] (n + 1)) 3)).drew.grown hgr5 (by simp) (fun j hj => by simp [Value.ownBlock] at hj; omega)
            simp only [Nat.zero_add, List.nil_append] at hown5
            exact ⟨A5, c5, by simp, hown5, hS5⟩
        case rest =>
         obtain ⟨A5, c5, rfl, hown5, hS5⟩ := hcut
         have hz5 := hS5.size
         have x05 := (hS5.cell (p := ⟨b, off + i, none⟩) (show b < w3.heap.size by omega)).trans x03
         have hb5 := hb3.trans (hS5.mono hz3)
         go_upto_region 11 with (at_builtin
                                 go_loud (refine wpList_append_rd rfl (.tmp 53) (.tmp 58) 47 rfl w3.heap.size 3 ii _ 8 Tryz.underlying47 Hi1.out Hi2.out Hi3.out Hi4.out rfl (.slice A5 k c5) k (ints (out.take k)) rfl (hown5.alloc _) _ _ 1 1 (ints [x]) rfl (Blk.rd (xs := ints [x]) (Blk.new _ _ _) rfl (Nat.lt_succ_self _)) (fun u hu => ints_one hu) (by unfold maxLen; omega) (by omega) (by simp; omega) ?_)
                                 intro A6 c6 w6 hown6 hgr6)
         have hS6 := (hS5.alloc hz5 (.cells #[.int .i64 x] 3)).grown hgr6 (by simp; omega) (fun j hj => (hown5.lt j hj).1)
         have hz6 := hS6.size
         have hb6 := hb3.trans (hS6.mono hz3)
         clear hown5 hgr6 hS5 hb5 x05 hz5
         have hlen : (out.take k ++ [x] ++ out.drop k).length = k + 1 + (n - k) := by simp; omega
         have Hlen := Lib.hid hlen
         have hxs : ints (out.take k) ++ ints [x] ++ ints (out.drop k) = ints (out.take k ++ [x] ++ out.drop k) := by simp [ints]
         have Hxs := Lib.hid hxs
         clear hlen hxs
         rcases hforms with ⟨rfl, rfl, rfl⟩ | ⟨g, rfl, hnc, hgb, hgl⟩
         · obtain rfl : k = 0 := by omega
           have hd0 : out.drop 0 = [] := by have := hnn; cases out <;> simp_all
           go_wp2_with (at_builtin
                        go_loud (refine wpList_append_rd rfl (.tmp 60) (.tmp 63) 47 rfl w3.heap.size 3 ii _ 8 Tryz.underlying47 Hi1.out Hi2.out Hi3.out Hi4.out rfl (.slice A6 1 c6) 1 _ rfl hown6 0 none 0 0 (ints (out.drop 0)) rfl (by rw [hd0]; exact Rd.nil _ _ _ _) (fun u hu => ints_one hu) (by unfold maxLen; omega) (by omega) hz6 ?_)
                        intro A7 c7 w7 hown7 hgr7)
           go_roundw
           case rel => exact ⟨i + 1, A7, c7, 1, by omega, by go_num, rfl, Lib.hid (by rw [Hr.out, Hlen.out]), by omega, by rw [Hr.out, ← Hxs.out]; exact hown7.mono hz3, hb6.grown hgr7 hb6.size (fun j hj => Nat.le_trans hz3 (hown6.lt j hj).1)⟩
           case measure => simp [intOf]; omega
         · have hrdp := (hrd3.dropG hk).below hS6 (Nat.le_refl _)
           have j1 : (k : Int) ≤ n := by omega
           have j2 : (n : Int) ≤ c' := by omega
           have j3 : k ≤ n := hk
           by_cases hck : c' = k
           · have hnk : n = k := by omega
             have hd0 : out.drop k = [] := by rw [List.drop_eq_nil_iff]; omega
             obtain rfl : k = n := hnk.symm
             obtain rfl : c' = k := hck
             go_wp2_with (at_builtin
                          go_loud (refine wpList_append_rd rfl (.tmp 60) (.tmp 63) 47 rfl w3.heap.size 3 ii _ 8 Tryz.underlying47 Hi1.out Hi2.out Hi3.out Hi4.out rfl (.slice A6 (c' + 1) c6) (c' + 1) _ rfl hown6 0 (some ⟨g, 0, none⟩) 0 0 (ints (out.drop c')) rfl (by rw [hd0]; exact Rd.nil _ _ _ _) (fun u hu => ints_one hu) (by unfold maxLen; omega) (by omega) hz6 ?_)
                          intro A7 c7 w7 hown7 hgr7)
             go_roundw
             case rel => exact ⟨i + 1, A7, c7, c' + 1, by omega, by go_num, rfl, Lib.hid (by rw [Hr.out, Hlen.out]; omega), by omega, by rw [Hr.out, ← Hxs.out]; exact hown7.mono hz3, hb6.grown hgr7 hb6.size (fun j hj => Nat.le_trans hz3 (hown6.lt j hj).1)⟩
             case measure => simp [intOf]; omega
           · have hck2 : ¬ c' ≤ k := by omega
             go_wp2_with (at_builtin
                          go_loud (refine wpList_append_rd rfl (.tmp 60) (.tmp 63) 47 rfl w3.heap.size 3 ii _ 8 Tryz.underlying47 Hi1.out Hi2.out Hi3.out Hi4.out rfl (.slice A6 (k + 1) c6) (k + 1) _ rfl hown6 w3.heap.size (some ⟨g, k, none⟩) (n - k) (c' - k) (ints (out.drop k)) rfl hrdp (fun u hu => ints_one hu) (by unfold maxLen; omega) (by omega) hz6 ?_)
                          intro A7 c7 w7 hown7 hgr7)
             go_roundw
             case rel => exact ⟨i + 1, A7, c7, k + 1 + (n - k), by omega, by go_num, rfl, Lib.hid (by rw [Hr.out, Hlen.out]), by omega, by rw [Hr.out, ← Hxs.out]; exact hown7.mono hz3, hb6.grown hgr7 hb6.size (fun j hj => Nat.le_trans hz3 (hown6.lt j hj).1)⟩
             case measure => simp [intOf]; omega
  · have e : i = l.length := by omega
    subst e
    have ht : l.take l.length = l := List.take_length
    rw [ht] at hown Hn
    obtain ⟨A2, d2, hA2, hrd⟩ := Rd.of_own hown
    injection hA2 with hA2 _ hd2
    subst hA2 hd2
    go_wp2
    exact HP.out _ _ _ _ Hn.out.symm hrd hb
end Go.Proofs.YtjjmpfmhggcjiaaGreatDoor
namespace Go.Proofs.YtjjmpfmhggcjiaaGreatDoor
open Go.RowKit Go.Maps
theorem sort_two (a b : Int) : sortS [a, b] = cmp2 (lo2 b a) (hi2 b a) := by
 unfold cmp2 lo2 hi2
 have h0 : sortS [a, b] = insS [a] b := rfl
 rw [h0]
 unfold insS
 by_cases h : a < b
 · have hp : posS [a] b = 1 := by simp [posS, h]
   have hne : ¬ b = a := by omega
   rw [hp]
   simp [h, hne]
 · have hp : posS [a] b = 0 := by simp [posS, h]
   rw [hp]
   by_cases e : b = a
   · subst e; simp
   · simp [h, e, show ¬ a = b from fun x => e x.symm]
theorem sort_two_le (a b : Int) : (sortS [a, b]).length ≤ 2 := sortS_len _
set_option maxRecDepth 1000000 in
set_option maxHeartbeats 2000000 in
theorem rnext_any (A : Option Addr) (c : Nat) (m : Mth) (pc : Int) (w : World) (hr : Rd w w.heap.size 4 A m.code.length (icells m.code)) (hm : m.code.length ≤ 9223372036854775807) :
 Calls Tryz.prog 114 #[mv A c m, .int .i64 pc] w (RowPost w (nextF m pc)) := by
 have hF : nextF m pc = if inB pc m.code.length = false then []
 else if (m.code.getD pc.toNat default).op = 33 then []
 else if (m.code.getD pc.toNat default).op = 22 then [(m.code.getD pc.toNat default).a]
 else if (m.code.getD pc.toNat default).op = 23 then cmp2 (lo2 (m.code.getD pc.toNat default).a (pc + 1)) (hi2 (m.code.getD pc.toNat default).a (pc + 1))
 else [pc + 1] := rfl
 have hP : ∀ l A n c w', nextF m pc = l → n ≤ 2 → Rd w' w'.heap.size 1 A n (ints l) → Below w.heap.size w w' → RowPost w (nextF m pc) (.returned (.slice A n c)) w' := fun l A n c w' e h1 h2 h3 => ⟨A, n, c, h1, rfl, by rw [e]; exact h2, h3⟩
 have HP := Lib.hid hP
 clear hP
 generalize RowPost w (nextF m pc) = Post at *
 cases hi : inB pc m.code.length with
 | false =>
   rw [hi] at hF
   have HF := Lib.hid hF
   have hx : pc < 0 ∨ (m.code.length : Int) ≤ pc := by
    have : ¬ (0 ≤ pc ∧ pc < m.code.length) := fun hh => by
     rw [show inB pc m.code.length = true by simp [inB, hh]] at hi
     cases hi
    omega
   clear hF hi
   rcases hx with hx | hx
   · go_enter Tryz.func114, Tryz.ntmps114
     go_wp2
     exact HP.out [] _ _ _ _ HF.out (by omega) (Rd.nil _ _ _ _) ((Below.refl _ _).alloc (Nat.le_refl _) _)
   · by_cases h0 : pc < 0
     · go_enter Tryz.func114, Tryz.ntmps114
       go_wp2
       exact HP.out [] _ _ _ _ HF.out (by omega) (Rd.nil _ _ _ _) ((Below.refl _ _).alloc (Nat.le_refl _) _)
     · go_enter Tryz.func114, Tryz.ntmps114
       go_wp2
       exact HP.out [] _ _ _ _ HF.out (by omega) (Rd.nil _ _ _ _) ((Below.refl _ _).alloc (Nat.le_refl _) _)
 | true =>
   have hx := in_true hi
   obtain ⟨k, rfl⟩ : ∃ k : Nat, pc = k := ⟨pc.toNat, by omega⟩
   have hkl : k < m.code.length := by omega
   obtain ⟨b, off, rfl, hbb, x0, x1, x2, x3⟩ := ins_at hr hkl
   have k0 : (0 : Int) ≤ k := by omega
   have k1 : (k : Int) < m.code.length := by omega
   rw [if_neg (by simp [hi])] at hF
   simp only [Int.toNat_natCast] at hF
   generalize m.code.getD k default = x at *
   obtain ⟨op, xa, xb, xn⟩ := x
   simp only at hF x0 x1 x2 x3
   have hc : op = 33 ∨ op = 22 ∨ op = 23 ∨ (op ≠ 33 ∧ op ≠ 22 ∧ op ≠ 23) := by omega
   rcases hc with e | e | e | ⟨e1, e2, e3⟩
   · have HF := Lib.hid (show nextF m k = [] by rw [hF, if_pos e])
     have f1 : (op == 33) = true := by simp [e]
     clear hF e
     go_enter Tryz.func114, Tryz.ntmps114
     go_wp2
     exact HP.out [] _ _ _ _ HF.out (by omega) (Rd.nil _ _ _ _) (((Below.refl _ _).alloc (Nat.le_refl _) _).alloc (by simp) _)
   · have HF := Lib.hid (show nextF m k = [xa] by rw [hF, if_neg (by omega), if_pos e])
     have f1 : (op == 33) = false := by simp; omega
     have f2 : (op == 22) = true := by simp [e]
     clear hF e
     go_enter Tryz.func114, Tryz.ntmps114
     go_wp2
     exact HP.out [xa] _ _ _ _ HF.out (by omega) (Blk.rd (xs := ints [xa]) (Blk.newAt (by simp) _ _) rfl (by simp)) ((((Below.refl _ _).alloc (Nat.le_refl _) _).alloc (by simp) _).alloc (by simp; omega) _)
   · have HF := Lib.hid (show nextF m k = cmp2 (lo2 xa (k + 1)) (hi2 xa (k + 1)) by rw [hF, if_neg (by omega), if_neg (by omega), if_pos e])
     have f1 : (op == 33) = false := by simp; omega
     have f2 : (op == 22) = false := by simp; omega
     have f3 : (op == 23) = true := by simp [e]
     clear hF e
     go_enter Tryz.func114, Tryz.ntmps114
     go_wp2_with fail
     have hw3 := (((Below.refl w.heap.size w).alloc (Nat.le_refl _) (.cells #[.string m.pa, .string m.lo, .string m.re, .slice (some ⟨b, off, none⟩) m.code.length c] 90)).alloc (by simp) (.cells #[.int .i64 op, .int .i64 xa, .int .i64 xb, .int .i64 xn] 118)).alloc (by simp; omega) (.cells #[.int .i64 ((k : Int) + 1), .int .i64 xa] 3)
     have hbk := Blk.newAt (w := (w.alloc (.cells #[.string m.pa, .string m.lo, .string m.re, .slice (some ⟨b, off, none⟩) m.code.length c] 90)).alloc (.cells #[.int .i64 op, .int .i64 xa, .int .i64 xb, .int .i64 xn] 118)) (g := w.heap.size + 1 + 1) (by simp) 3 #[.int .i64 ((k : Int) + 1), .int .i64 xa]
     refine (sorted_any _ _ [(k : Int) + 1, xa] _ (Blk.rd (xs := ints [(k : Int) + 1, xa]) hbk rfl hbk.lt) (by simp)).mono ?_
     rintro e w4 ⟨A4, c4, rfl, r4, b4⟩
     rw [sort_two] at r4
     have hl4 := sort_two_le ((k : Int) + 1) xa
     have hw4 := hw3.trans (b4.mono hw3.size)
     go_wp2
     exact HP.out _ _ _ _ _ HF.out hl4 (by rw [sort_two]; exact r4) hw4
   · have HF := Lib.hid (show nextF m k = [(k : Int) + 1] by rw [hF, if_neg e1, if_neg e2, if_neg e3])
     have f1 : (op == 33) = false := by simp; omega
     have f2 : (op == 22) = false := by simp; omega
     have f3 : (op == 23) = false := by simp; omega
     clear hF e1 e2 e3
     go_enter Tryz.func114, Tryz.ntmps114
     go_wp2
     exact HP.out [(k : Int) + 1] _ _ _ _ HF.out (by omega) (Blk.rd (xs := ints [(k : Int) + 1]) (Blk.newAt (by simp) _ _) rfl (by simp)) ((((Below.refl _ _).alloc (Nat.le_refl _) _).alloc (by simp) _).alloc (by simp; omega) _)
end Go.Proofs.YtjjmpfmhggcjiaaGreatDoor
