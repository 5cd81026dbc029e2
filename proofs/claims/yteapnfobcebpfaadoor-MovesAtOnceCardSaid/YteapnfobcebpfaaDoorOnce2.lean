/-
  The walk of MovesAtOnce: at most 60 moves.
-/
import Derived.Test.YteapnfobcebpfaaDoorOnce
import Derived.Test.YteapnfobcebpfaaDoorOnceLaw2
namespace Go.Proofs.YteapnfobcebpfaaDoor
open Go.RowKit Go.Maps Mov

/-- What Order answers. -/
def OrdV (a : Nat → Addr) (w : World) (l : List Mv) (sp : Int) (k : Nat) (e : Ending) (w' : World) : Prop :=
  ∃ A m c, e = .returned (.tuple #[.slice A m c, errV a k]) ∧ Below w.heap.size w w' ∧ (k ≠ 0 → m = 0) ∧ (k = 0 → m = (orderF l sp).length ∧ w'.ownsRow w.heap.size 31 2 (.slice A m c) m (mcells (orderF l sp)))
theorem order_v (a : Nat → Addr) (B : Nat) (A : Option Addr) (c : Nat) (l : List Mv) (sp : Int) (w : World) (h : Sent w B [1, 3, 5] a) (hB : B ≤ w.heap.size) (hr : Rd w w.heap.size 2 A l.length (mcells l)) (hw : Wf l) (hws : wf64 sp) (hl : l.length ≤ 9223372036854775807) :
    Calls Tryd.prog 8 #[.slice A l.length c, .int .i64 sp] w (OrdV a w l sp (orderBad l sp)) :=
  (order_any a B A c l sp w h hB hr hw hws hl).mono fun e w' ⟨hb, ho⟩ => by
    rcases ho with ⟨h0, he⟩ | ⟨h0, A, c, he, ho⟩
    · exact ⟨none, 0, 0, he, hb, fun _ => rfl, fun q => absurd q h0⟩
    · exact ⟨A, _, c, by rw [h0]; exact he, hb, fun q => absurd h0 q, fun _ => ⟨rfl, ho⟩⟩

set_option maxRecDepth 100000 in
set_option maxHeartbeats 2000000 in
theorem once_main (a : Nat → Addr) (B : Nat) (w : World) (h : Sent w B all14 a) (hB : B ≤ w.heap.size) (A A2 : Option Addr) (c q c2 : Nat) (l : List Mv) (sp : Int) (ks : List Int) (hr : Rd w w.heap.size 2 A l.length (mcells l)) (hw : Wf l) (hsp : wf64 sp)
    (hq : Rd w w.heap.size 1 A2 q (ints ks)) (h2 : l.length ≤ 60) (h3 : q ≤ 40) :
    Calls Tryd.prog 3 #[.slice A l.length c, .int .i64 sp, .slice A2 q c2] w fun e w' => e = .returned (.bool true) ∧ Below w.heap.size w w' := by
  have h135 : Sent w B [1, 3, 5] a := h.sub (by intro k hk; simp at hk; rcases hk with rfl | rfl | rfl <;> simp [all14])
  have hord : ∀ W, Below w.heap.size w W → Calls Tryd.prog 8 #[.slice A l.length c, .int .i64 sp] W (OrdV a W l sp (orderBad l sp)) := fun W hW =>
    order_v a B A c l sp W (h135.below hW hB) (Nat.le_trans hB hW.size) ((hr.below hW (Nat.le_refl _)).more hW.size) hw hsp (by omega)
  have hcyc : ∀ W, Below w.heap.size w W → Calls Tryd.prog 10 #[.slice A l.length c] W fun e w' => e = .returned (.int .i64 (cyclesF l)) ∧ Below W.heap.size W w' := fun W hW =>
    cycles_any a B A c l W (h135.below hW hB) (Nat.le_trans hB hW.size) ((hr.below hW (Nat.le_refl _)).more hW.size) hw (by omega)
  have hrnd : ∀ W, Below w.heap.size w W → Calls Tryd.prog 11 #[.slice A l.length c] W fun e w' => e = .returned (.int .i64 (roundsF l)) ∧ Below W.heap.size W w' := fun W hW =>
    rounds_any A c l W ((hr.below hW (Nat.le_refl _)).more hW.size) (by omega)
  have his3 : ∀ W, Below w.heap.size w W → Calls Tryd.prog 9 #[.iface 67 (.pointer (some (a 3))), .int .i64 103] W fun e w' => e = .returned (.bool true) ∧ Below W.heap.size W w' := fun W hW => is_any a B W (h.below hW hB) (Nat.le_trans hB hW.size) (k := 3) (by omega) 103
  have his5 : ∀ W, Below w.heap.size w W → Calls Tryd.prog 9 #[.iface 67 (.pointer (some (a 5))), .int .i64 105] W fun e w' => e = .returned (.bool true) ∧ Below W.heap.size W w' := fun W hW => is_any a B W (h.below hW hB) (Nat.le_trans hB hW.size) (k := 5) (by omega) 105
  have Hord := Lib.hid hord
  have Hcyc := Lib.hid hcyc
  have Hrnd := Lib.hid hrnd
  have His3 := Lib.hid his3
  have His5 := Lib.hid his5
  have q1 : decide (60 < (l.length : Int)) = false := by simp; omega
  have q3 : decide (600 < (l.length : Int)) = false := by simp; omega
  have q4 : decide (40 < (q : Int)) = false := by simp; omega
  have q5 : decide (500 < (l.length : Int)) = false := by simp; omega
  have hi0 := Lib.hid (show ixF l sp 0 = !plB sp by simp [ixF])
  clear hord hcyc hrnd his3 his5 hw hsp
  go_enter Tryd.func3, Tryd.ntmps3
  go_wp2_with (go_at_call 7; refine (first_any a B _ h135 hB).mono ?_; rintro e w0 ⟨rfl, hb0⟩)
  refine (Hord.out _ hb0).mono ?_
  rintro e w1 ⟨Ao, mo, co, rfl, hb1, hm0, hm1⟩
  have Hm0 := Lib.hid hm0
  have Hm1 := Lib.hid hm1
  have hbb : Below w.heap.size w w1 := hb0.trans (hb1.mono hb0.size)
  clear hm0 hm1
  go_upto_region 7 with (fail)
  go_cut [10] from 69 to 74 (fun v wx => v = .bool (ixF l sp 0) ∧ wx = w1)
  case first =>
    have hpl : plB sp = decide (-1000 ≤ sp ∧ sp ≤ 1000) := rfl
    by_cases e1 : sp < -1000
    · have hv := Lib.hid (show ixF l sp 0 = true by rw [hi0.out, hpl]; simp; omega)
      clear hpl
      go_wp2
      go_meet
      exact ⟨by rw [hv.out], rfl⟩
    · by_cases e2 : 1000 < sp
      · have hv := Lib.hid (show ixF l sp 0 = true by rw [hi0.out, hpl]; simp; omega)
        clear hpl
        go_wp2
        go_meet
        exact ⟨by rw [hv.out], rfl⟩
      · have hv := Lib.hid (show ixF l sp 0 = false by rw [hi0.out, hpl]; simp; omega)
        clear hpl
        go_wp2
        go_meet
        exact ⟨by rw [hv.out], rfl⟩
  case rest =>
    obtain ⟨rfl, hwc⟩ := hcut
    have hwc := hwc.symm
    subst hwc
    clear hi0
    go_wp2
    go_loopw [10, 11, 12, 13] (fun vi vs vt i wr => ∃ k : Nat, k ≤ l.length ∧ i = .int .i64 k ∧ vi = .bool (ixF l sp k) ∧ vs = .bool (shF l sp k) ∧ vt = .bool (twF l k) ∧ Below w1.heap.size w1 wr) (fun _ _ _ i _ => l.length - (intOf i).toNat)
    case atStart => exact ⟨0, Nat.zero_le _, rfl, rfl, rfl, rfl, Below.refl _ _⟩
    case round =>
      obtain ⟨k, hk, rfl, rfl, rfl, rfl, hb⟩ := hrel
      have hbw : Below w.heap.size w wr := hbb.trans (hb.mono hbb.size)
      have hz := hb.size
      by_cases hlt : k < l.length
      · obtain ⟨b, off, rfl, hbl, c1, c2'⟩ := moves_at (hr.below hbw (Nat.le_refl _)) hlt
        have k0 : (0 : Int) ≤ k := by omega
        have k1 : (k : Int) < l.length := by omega
        go_upto_region 14 with (fail)
        go_cut [10] from 85 to 105 (fun v wx => v = .bool (ixF l sp (k + 1)) ∧ Blk wx wr.heap.size 31 #[.int .i64 (toAt l k), .int .i64 (frAt l k)] ∧ Below w1.heap.size w1 wx)
        case first =>
          have his := ixF_succ (sp := sp) hlt
          have hp1 : plB (toAt l k) = decide (-1000 ≤ toAt l k ∧ toAt l k ≤ 1000) := rfl
          have hp2 : plB (frAt l k) = decide (-1000 ≤ frAt l k ∧ frAt l k ≤ 1000) := rfl
          rw [hp1, hp2] at his
          clear hp1 hp2
          have Hs := Lib.hid his
          clear his
          cases hI : ixF l sp k with
          | true =>
            have hv := Lib.hid (show ixF l sp (k + 1) = true by rw [Hs.out, hI]; rfl)
            go_wp2
            go_meet
            exact ⟨by rw [hv.out], Blk.new _ _ _, hb.alloc hz _⟩
          | false =>
            by_cases e1 : toAt l k < -1000
            · have hv := Lib.hid (show ixF l sp (k + 1) = true by rw [Hs.out, hI]; simp; omega)
              go_wp2
              go_meet
              exact ⟨by rw [hv.out], Blk.new _ _ _, hb.alloc hz _⟩
            · by_cases e2 : 1000 < toAt l k
              · have hv := Lib.hid (show ixF l sp (k + 1) = true by rw [Hs.out, hI]; simp; omega)
                go_wp2
                go_meet
                exact ⟨by rw [hv.out], Blk.new _ _ _, hb.alloc hz _⟩
              · by_cases e3 : frAt l k < -1000
                · have hv := Lib.hid (show ixF l sp (k + 1) = true by rw [Hs.out, hI]; simp; omega)
                  go_wp2
                  go_meet
                  exact ⟨by rw [hv.out], Blk.new _ _ _, hb.alloc hz _⟩
                · by_cases e4 : 1000 < frAt l k
                  · have hv := Lib.hid (show ixF l sp (k + 1) = true by rw [Hs.out, hI]; simp; omega)
                    go_wp2
                    go_meet
                    exact ⟨by rw [hv.out], Blk.new _ _ _, hb.alloc hz _⟩
                  · have hv := Lib.hid (show ixF l sp (k + 1) = false by rw [Hs.out, hI]; simp; omega)
                    go_wp2
                    go_meet
                    exact ⟨by rw [hv.out], Blk.new _ _ _, hb.alloc hz _⟩
        case rest =>
          obtain ⟨rfl, hm, hbx⟩ := hcut
          have hm1 := hm.at0
          have hm2 := hm.at1
          go_upto_region 15 with (fail)
          go_cut [11] from 106 to 118 (fun v wx => v = .bool (shF l sp (k + 1)) ∧ Blk wx wr.heap.size 31 #[.int .i64 (toAt l k), .int .i64 (frAt l k)] ∧ Below w1.heap.size w1 wx)
          case first =>
            have Hs := Lib.hid (shF_succ (sp := sp) hlt)
            cases hI : shF l sp k with
            | true =>
              have hv := Lib.hid (show shF l sp (k + 1) = true by rw [Hs.out, hI]; rfl)
              go_wp2
              go_meet
              exact ⟨by rw [hv.out], hm, hbx⟩
            | false =>
              cases e1 : (toAt l k == sp) with
              | true =>
                have hv := Lib.hid (show shF l sp (k + 1) = true by rw [Hs.out, hI, e1]; rfl)
                go_wp2
                go_meet
                exact ⟨by rw [hv.out], hm, hbx⟩
              | false =>
                cases e2 : (frAt l k == sp) with
                | true =>
                  have hv := Lib.hid (show shF l sp (k + 1) = true by rw [Hs.out, hI, e1, e2]; rfl)
                  go_wp2
                  go_meet
                  exact ⟨by rw [hv.out], hm, hbx⟩
                | false =>
                  have hv := Lib.hid (show shF l sp (k + 1) = false by rw [Hs.out, hI, e1, e2]; rfl)
                  go_wp2
                  go_meet
                  exact ⟨by rw [hv.out], hm, hbx⟩
          case rest =>
            clear hm hbx hm1 hm2
            obtain ⟨rfl, hm, hbx⟩ := hcut
            have hzx := hbx.size
            have h1w := hbb.size
            have hlx : Below w.heap.size w wc := hbb.trans (hbx.mono h1w)
            go_wp2
            go_loopw [12, 15] (fun vt i wr2 => ∃ j : Nat, j ≤ k ∧ i = .int .i64 j ∧ vt = .bool (twF l k || hasK l j (toAt l k)) ∧ Below wc.heap.size wc wr2) (fun _ i _ => k - (intOf i).toNat)
            case atStart => exact ⟨0, Nat.zero_le _, rfl, by rw [hasK_zero, Bool.or_false], Below.refl _ _⟩
            case round =>
              obtain ⟨j, hj, rfl, rfl, hb2⟩ := hrel
              have hm2 := hm.below hb2 hm.lt
              have hmc := hm2.at0
              by_cases hlt2 : j < k
              · obtain ⟨b', off', hA', hbl', d1, d2⟩ := moves_at (hr.below (hlx.trans (hb2.mono hlx.size)) (Nat.le_refl _)) (k := j) (by omega)
                injection hA' with hA'
                injection hA' with hA1 hA2
                subst hA1 hA2
                have j0 : (0 : Int) ≤ j := by omega
                have j1 : (j : Int) < k := by omega
                have j2 : (j : Int) < l.length := by omega
                have Hs := Lib.hid (show (twF l k || hasK l (j + 1) (toAt l k)) = ((twF l k || hasK l j (toAt l k)) || toAt l j == toAt l k) by rw [hasK_succ (by omega), Bool.or_assoc])
                cases hI : twF l k || hasK l j (toAt l k) with
                | true =>
                  have hv := Lib.hid (show (twF l k || hasK l (j + 1) (toAt l k)) = true by rw [Hs.out, hI]; rfl)
                  go_wp2
                  go_quiet (fail)
                  go_wp2
                  go_roundw
                  case rel => exact ⟨j + 1, by omega, by go_num, by rw [hv.out], below_drewN hb2 _⟩
                  case measure => simp [intOf]; omega
                | false =>
                  cases e1 : toAt l j == toAt l k with
                  | true =>
                    have hv := Lib.hid (show (twF l k || hasK l (j + 1) (toAt l k)) = true by rw [Hs.out, hI, e1]; rfl)
                    go_wp2
                    go_quiet (fail)
                    go_wp2
                    go_roundw
                    case rel => exact ⟨j + 1, by omega, by go_num, by rw [hv.out], below_drewN hb2 _⟩
                    case measure => simp [intOf]; omega
                  | false =>
                    have hv := Lib.hid (show (twF l k || hasK l (j + 1) (toAt l k)) = false by rw [Hs.out, hI, e1]; rfl)
                    go_wp2
                    go_quiet (fail)
                    go_wp2
                    go_roundw
                    case rel => exact ⟨j + 1, by omega, by go_num, by rw [hv.out], below_drewN hb2 _⟩
                    case measure => simp [intOf]; omega
              · have e : j = k := by omega
                subst e
                have j1 : ¬ (j : Int) < j := by omega
                go_wp2
                go_roundw
                case rel => exact ⟨j + 1, by omega, by go_num, rfl, rfl, by rw [twF_succ], hbx.trans (hb2.mono hzx)⟩
                case measure => simp [intOf]; omega
      · have e : k = l.length := by omega
        subst e
        have k1 : ¬ (l.length : Int) < l.length := by omega
        cases hI : ixF l sp l.length with
        | true =>
          have hbad := bad_ix (l := l) (sp := sp) (by omega) hI
          have hmo : mo = 0 := Hm0.out (by rw [hbad]; decide)
          subst hmo
          rw [hbad]
          simp only [errV, sent, Nat.reduceAdd]
          clear hbad
          go_wp2_with fail
          refine (His3.out _ hbw).mono ?_
          rintro e w3 ⟨rfl, hb3⟩
          go_wp2
          go_ret
          exact ⟨rfl, hbw.trans (hb3.mono hbw.size)⟩
        | false =>
          rcases hS : shF l sp l.length with _ | _ <;> rcases hT : twF l l.length with _ | _
          · obtain ⟨hbad, hlen, hcy, hdoes, hkeys, hleaves, hused, hle⟩ := once_facts (l := l) (sp := sp) (by omega) hI hS hT
            obtain ⟨hmo, hown⟩ := Hm1.out hbad
            rw [hbad]
            simp only [errV]
            clear Hm0 Hm1 hbad hI hS hT His3 His5
            generalize orderF l sp = O at *
            subst hmo
            have hrO : Rd w1 w1.heap.size 2 Ao O.length (mcells O) := by
              obtain ⟨A', c', hA', hr'⟩ := Rd.of_own hown
              injection hA' with h1 _ h3
              subst h1 h3
              exact hr'
            have Hlen := Lib.hid hlen
            have Hcy := Lib.hid hcy
            have Hdoes := Lib.hid hdoes
            have Hkeys := Lib.hid hkeys
            have Hleaves := Lib.hid hleaves
            have Hused := Lib.hid hused
            clear hlen hcy hdoes hkeys hleaves hused hown
            go_wp2_with fail
            refine (Hrnd.out _ hbw).mono ?_
            rintro e w3 ⟨rfl, hb3⟩
            have hb13 : Below w1.heap.size w1 w3 := hb.trans (hb3.mono hz)
            have hbw3 : Below w.heap.size w w3 := hbb.trans (hb13.mono hbb.size)
            clear hb hbw hb3 hz
            go_wp2
            go_loopw [17, 18] (fun vn i wr => ∃ k : Nat, k ≤ l.length ∧ i = .int .i64 k ∧ vn = .int .i64 ((roundsF l + (nonTriv (l.take k)).length : Nat) : Int) ∧ Below w3.heap.size w3 wr) (fun _ i _ => l.length - (intOf i).toNat)
            case atStart => exact ⟨0, Nat.zero_le _, rfl, rfl, Below.refl _ _⟩
            case round =>
              obtain ⟨i, hi, rfl, rfl, hb4⟩ := hrel
              have hbw4 : Below w.heap.size w wr := hbw3.trans (hb4.mono hbw3.size)
              have hlw : (nonTriv (l.take i)).length ≤ i := Nat.le_trans (List.length_filter_le _ _) (by simp; omega)
              have hrl : roundsF l ≤ 120 := by have := Hlen.out; omega
              by_cases hlt : i < l.length
              · obtain ⟨b, off, rfl, hbl, c1, c2'⟩ := moves_at (hr.below hbw4 (Nat.le_refl _)) hlt
                have i0 : (0 : Int) ≤ i := by omega
                have i1 : (i : Int) < l.length := by omega
                cases e1 : toAt l i != frAt l i with
                | true =>
                  have hv := Lib.hid (show (nonTriv (l.take (i + 1))).length = (nonTriv (l.take i)).length + 1 by rw [nonTriv_more hlt (by simpa using e1)]; simp)
                  go_wp2
                  go_quiet (fail)
                  go_wp2
                  go_roundw
                  case rel => exact ⟨i + 1, by omega, by go_num, by rw [hv.out]; go_num, below_drewN hb4 _⟩
                  case measure => simp [intOf]; omega
                | false =>
                  have hv := Lib.hid (nonTriv_same hlt (by simpa using e1))
                  go_wp2
                  go_quiet (fail)
                  go_wp2
                  go_roundw
                  case rel => exact ⟨i + 1, by omega, by go_num, by rw [hv.out], below_drewN hb4 _⟩
                  case measure => simp [intOf]; omega
              · have e : i = l.length := by omega
                subst e
                have i1 : ¬ (l.length : Int) < l.length := by omega
                rw [List.take_length, ← Hlen.out]
                clear hlw
                go_wp2_with fail
                refine (Hcyc.out _ hbw4).mono ?_
                rw [Hcy.out]
                rintro e w5 ⟨rfl, hb5⟩
                have hb15 : Below w1.heap.size w1 w5 := hb13.trans ((hb4.mono hb13.size).trans (hb5.mono (Nat.le_trans hb13.size hb4.size)))
                have hbw5 : Below w.heap.size w w5 := hbb.trans (hb15.mono hbb.size)
                clear hbw4 hb4 hb5 hb13 hbw3
                go_wp2
                go_loopw [19, 20, 21] (fun v vu i wr => ∃ (k : Nat) (A4 : Option Addr) (n4 c4 : Nat) (gs : List Nat), k ≤ O.length ∧ i = .int .i64 k ∧ v = .slice A4 n4 c4 ∧ vu = .bool (usF O sp k) ∧ HR wr w5.heap.size A4 n4 c4 gs (haveF (O.take k) []) ∧ Below w5.heap.size w5 wr) (fun _ _ i _ => O.length - (intOf i).toNat)
                case atStart => exact ⟨0, none, 0, 0, [], Nat.zero_le _, rfl, rfl, rfl, HR.nil _ _, Below.refl _ _⟩
                case round =>
                  obtain ⟨j, A4, n4, c4, gs, hj, rfl, rfl, rfl, hR, hb6⟩ := hrel
                  have hz6 := hb6.size
                  have hb16 := hb15.trans (hb6.mono hb15.size)
                  have hn4 : n4 ≤ 100000 := by
                    have h1 := len_haveF (O.take j) []
                    have h2 := hR.lh
                    simp at h1
                    omega
                  by_cases hlt2 : j < O.length
                  · obtain ⟨b, off, rfl, hbl, q1, q2⟩ := moves_at (hrO.below hb16 (Nat.le_refl _)) hlt2
                    have j0 : (0 : Int) ≤ j := by omega
                    have j1 : (j : Int) < O.length := by omega
                    have Hu := Lib.hid (usF_succ (sp := sp) hlt2)
                    go_wp2
                    refine wp_region_still_tail 13 (by kernel_rfl) (by kernel_rfl) ?_
                    simp only [List.take_succ_cons, List.take_zero, List.drop_succ_cons, List.drop_zero]
                    repeat still_step
                    still_call (at_same wr.drew hR.drew hn4 _)
                    repeat still_step
                    refine wpStill_nil ?_
                    change wpList _ _ _ _ _ wr.drew
                    go_wp2_with fail
                    refine (put_any _ hR.drew hz6 hn4 _ _).mono ?_
                    rintro e w7 ⟨A5, n5, c5, gs5, rfl, hR5, hb7⟩
                    have hb57 := hb6.drew.trans hb7
                    obtain ⟨b3, off3, hA3, hbl3, p1, p2⟩ := moves_at (hrO.below (hb15.trans (hb57.mono hb15.size)) (Nat.le_refl _)) hlt2
                    injection hA3 with hA3
                    injection hA3 with hA4 hA5
                    subst hA4 hA5
                    cases hI : usF O sp j with
                    | true =>
                      have hv := Lib.hid (show usF O sp (j + 1) = true by rw [Hu.out, hI]; rfl)
                      go_wp2
                      go_roundw
                      case rel => exact ⟨j + 1, A5, n5, c5, gs5, by omega, by go_num, rfl, by rw [hv.out], by rw [haveF_next hlt2]; exact hR5, hb57⟩
                      case measure => simp [intOf]; omega
                    | false =>
                      cases e1 : toAt O j == sp with
                      | true =>
                        have hv := Lib.hid (show usF O sp (j + 1) = true by rw [Hu.out, hI, e1]; rfl)
                        go_wp2
                        go_roundw
                        case rel => exact ⟨j + 1, A5, n5, c5, gs5, by omega, by go_num, rfl, by rw [hv.out], by rw [haveF_next hlt2]; exact hR5, hb57⟩
                        case measure => simp [intOf]; omega
                      | false =>
                        have hv := Lib.hid (show usF O sp (j + 1) = false by rw [Hu.out, hI, e1]; rfl)
                        go_wp2
                        go_roundw
                        case rel => exact ⟨j + 1, A5, n5, c5, gs5, by omega, by go_num, rfl, by rw [hv.out], by rw [haveF_next hlt2]; exact hR5, hb57⟩
                        case measure => simp [intOf]; omega
                  · have e : j = O.length := by omega
                    subst e
                    have j1 : ¬ (O.length : Int) < O.length := by omega
                    rw [List.take_length] at hR
                    obtain ⟨w8, hw8⟩ : ∃ w8 : World, w8 = wr := ⟨_, rfl⟩
                    go_wp2
                    rw [← hw8] at hR hb16 hz6 ⊢
                    have hbw8 : Below w.heap.size w w8 := hbb.trans (hb16.mono hbb.size)
                    clear hw8 hb6 hb15 hbw5
                    go_loopw [22] (fun i w9 => ∃ m : Nat, m ≤ l.length ∧ i = .int .i64 m ∧ Below w8.heap.size w8 w9) (fun i _ => l.length - (intOf i).toNat)
                    case atStart => exact ⟨0, Nat.zero_le _, rfl, Below.refl _ _⟩
                    case round =>
                      obtain ⟨m, hm, rfl, hb9⟩ := hrel
                      have hR9 := hR.kept hb9
                      have hbw9 : Below w.heap.size w wr := hbw8.trans (hb9.mono hbw8.size)
                      by_cases hlt3 : m < l.length
                      · obtain ⟨b, off, rfl, hbl, q1, q2⟩ := moves_at (hr.below hbw9 (Nat.le_refl _)) hlt3
                        have m0 : (0 : Int) ≤ m := by omega
                        have m1 : (m : Int) < l.length := by omega
                        have hd := Hdoes.out m hlt3
                        go_wp2
                        go_quiet ((go_at_call 13; exact Calls.quiet_of_same (at_same _ hR9.drewN hn4 _)))
                        go_wp2
                        go_roundw
                        case rel => exact ⟨m + 1, by omega, by go_num, below_drewN hb9 _⟩
                        case measure => simp [intOf]; omega
                      · have e : m = l.length := by omega
                        subst e
                        have m1 : ¬ (l.length : Int) < l.length := by omega
                        obtain ⟨w10, hw10⟩ : ∃ w10 : World, w10 = wr := ⟨_, rfl⟩
                        go_wp2
                        rw [← hw10] at hR9 hbw9 ⊢
                        clear hw10 hb9 hbw8 hR hb16 hz6
                        go_loopw [23] (fun i w9 => ∃ m : Nat, m ≤ n4 ∧ i = .int .i64 m ∧ Below w10.heap.size w10 w9) (fun i _ => n4 - (intOf i).toNat)
                        case atStart => exact ⟨0, Nat.zero_le _, rfl, Below.refl _ _⟩
                        case round =>
                          obtain ⟨m, hm, rfl, hb11⟩ := hrel
                          by_cases hlt4 : m < n4
                          · obtain ⟨ga, g, rfl, hg, c1, c2', c3', _⟩ := (hR9.kept hb11).at_ hlt4
                            have m0 : (0 : Int) ≤ m := by omega
                            have m1 : (m : Int) < n4 := by omega
                            have Hto := Lib.hid (Hkeys.out _ (at_mem (show m < (haveF O []).length by rw [hR9.lh]; exact hlt4)))
                            go_wp2
                            go_loopw [24, 25] (fun vt i w9 => ∃ j : Nat, j ≤ l.length ∧ i = .int .i64 j ∧ vt = .bool (toAt (haveF O []) m == sp || hasK l j (toAt (haveF O []) m)) ∧ Below w10.heap.size w10 w9) (fun _ i _ => l.length - (intOf i).toNat)
                            case atStart => exact ⟨0, Nat.zero_le _, rfl, by rw [hasK_zero, Bool.or_false], hb11⟩
                            case round =>
                              obtain ⟨j, hj, rfl, rfl, hb12⟩ := hrel
                              obtain ⟨ga', g', hga, hg', d1, d2, d3, _⟩ := (hR9.kept hb12).at_ hlt4
                              injection hga with hga
                              injection hga with hga
                              subst hga
                              rw [hg] at hg'
                              injection hg' with hg'
                              subst hg'
                              by_cases hlt5 : j < l.length
                              · obtain ⟨b, off, rfl, hbl, q1, q2⟩ := moves_at (hr.below (hbw9.trans (hb12.mono hbw9.size)) (Nat.le_refl _)) hlt5
                                have j0 : (0 : Int) ≤ j := by omega
                                have j1 : (j : Int) < l.length := by omega
                                have Hs := Lib.hid (show (toAt (haveF O []) m == sp || hasK l (j + 1) (toAt (haveF O []) m)) = ((toAt (haveF O []) m == sp || hasK l j (toAt (haveF O []) m)) || toAt l j == toAt (haveF O []) m) by rw [hasK_succ hlt5, Bool.or_assoc])
                                cases hI : (toAt (haveF O []) m == sp || hasK l j (toAt (haveF O []) m)) with
                                | true =>
                                  have hv := Lib.hid (show (toAt (haveF O []) m == sp || hasK l (j + 1) (toAt (haveF O []) m)) = true by rw [Hs.out, hI]; rfl)
                                  go_wp2
                                  go_quiet (fail)
                                  go_wp2
                                  go_roundw
                                  case rel => exact ⟨j + 1, by omega, by go_num, by rw [hv.out], below_drewN hb12 _⟩
                                  case measure => simp [intOf]; omega
                                | false =>
                                  cases e1 : toAt l j == toAt (haveF O []) m with
                                  | true =>
                                    have hv := Lib.hid (show (toAt (haveF O []) m == sp || hasK l (j + 1) (toAt (haveF O []) m)) = true by rw [Hs.out, hI, e1]; rfl)
                                    go_wp2
                                    go_quiet (fail)
                                    go_wp2
                                    go_roundw
                                    case rel => exact ⟨j + 1, by omega, by go_num, by rw [hv.out], below_drewN hb12 _⟩
                                    case measure => simp [intOf]; omega
                                  | false =>
                                    have hv := Lib.hid (show (toAt (haveF O []) m == sp || hasK l (j + 1) (toAt (haveF O []) m)) = false by rw [Hs.out, hI, e1]; rfl)
                                    go_wp2
                                    go_quiet (fail)
                                    go_wp2
                                    go_roundw
                                    case rel => exact ⟨j + 1, by omega, by go_num, by rw [hv.out], below_drewN hb12 _⟩
                                    case measure => simp [intOf]; omega
                              · have e : j = l.length := by omega
                                subst e
                                have j1 : ¬ (l.length : Int) < l.length := by omega
                                rw [Hto.out]
                                go_wp2
                                go_quiet (fail)
                                go_wp2
                                go_roundw
                                case rel => exact ⟨m + 1, by omega, by go_num, below_drewN hb12 _⟩
                                case measure => simp [intOf]; omega
                          · have e : m = n4 := by omega
                            subst e
                            have m1 : ¬ (m : Int) < m := by omega
                            obtain ⟨w12, hw12⟩ : ∃ w12 : World, w12 = wr := ⟨_, rfl⟩
                            have hR12 := hR9.kept hb11
                            have hbw12 : Below w.heap.size w wr := hbw9.trans (hb11.mono hbw9.size)
                            go_wp2
                            rw [← hw12] at hR12 hbw12 ⊢
                            clear hw12 hb11 hR9 hbw9
                            go_loopw [26] (fun i w9 => ∃ m : Nat, m ≤ q ∧ i = .int .i64 m ∧ Below w12.heap.size w12 w9) (fun i _ => q - (intOf i).toNat)
                            case atStart => exact ⟨0, Nat.zero_le _, rfl, Below.refl _ _⟩
                            case round =>
                              obtain ⟨i, hi, rfl, hb13⟩ := hrel
                              have hbw13 : Below w.heap.size w wr := hbw12.trans (hb13.mono hbw12.size)
                              by_cases hlt6 : i < q
                              · obtain ⟨b2, off2, rfl, hbl2, a1⟩ := ints_at (hq.below hbw13 (Nat.le_refl _)) hlt6
                                have i0 : (0 : Int) ≤ i := by omega
                                have i1 : (i : Int) < q := by omega
                                obtain ⟨x, hx⟩ : ∃ x, x = ks[i]?.getD 0 := ⟨_, rfl⟩
                                rw [← hx] at a1
                                have Hx := Lib.hid hx
                                have Hlv := Lib.hid (Hleaves.out x)
                                clear hx
                                go_wp2
                                go_loopw [27, 28] (fun vt i w9 => ∃ j : Nat, j ≤ l.length ∧ i = .int .i64 j ∧ vt = .bool (x == sp || hasK l j x) ∧ Below w12.heap.size w12 w9) (fun _ i _ => l.length - (intOf i).toNat)
                                case atStart => exact ⟨0, Nat.zero_le _, rfl, by rw [hasK_zero, Bool.or_false], hb13⟩
                                case round =>
                                  obtain ⟨j, hj, rfl, rfl, hb14⟩ := hrel
                                  have hbw14 : Below w.heap.size w wr := hbw12.trans (hb14.mono hbw12.size)
                                  obtain ⟨b3, off3, hA3, hbl3, a2⟩ := ints_at (hq.below hbw14 (Nat.le_refl _)) hlt6
                                  injection hA3 with hA3
                                  injection hA3 with hA4 hA5
                                  subst hA4 hA5
                                  rw [← Hx.out] at a2
                                  have hR14 := hR12.kept hb14
                                  by_cases hlt7 : j < l.length
                                  · obtain ⟨b, off, rfl, hbl, q1, q2⟩ := moves_at (hr.below hbw14 (Nat.le_refl _)) hlt7
                                    have j0 : (0 : Int) ≤ j := by omega
                                    have j1 : (j : Int) < l.length := by omega
                                    have Hs := Lib.hid (show (x == sp || hasK l (j + 1) x) = ((x == sp || hasK l j x) || toAt l j == x) by rw [hasK_succ hlt7, Bool.or_assoc])
                                    cases hI : (x == sp || hasK l j x) with
                                    | true =>
                                      have hv := Lib.hid (show (x == sp || hasK l (j + 1) x) = true by rw [Hs.out, hI]; rfl)
                                      go_wp2
                                      go_quiet (fail)
                                      go_wp2
                                      go_roundw
                                      case rel => exact ⟨j + 1, by omega, by go_num, by rw [hv.out], below_drewN hb14 _⟩
                                      case measure => simp [intOf]; omega
                                    | false =>
                                      cases e1 : toAt l j == x with
                                      | true =>
                                        have hv := Lib.hid (show (x == sp || hasK l (j + 1) x) = true by rw [Hs.out, hI, e1]; rfl)
                                        go_wp2
                                        go_quiet (fail)
                                        go_wp2
                                        go_roundw
                                        case rel => exact ⟨j + 1, by omega, by go_num, by rw [hv.out], below_drewN hb14 _⟩
                                        case measure => simp [intOf]; omega
                                      | false =>
                                        have hv := Lib.hid (show (x == sp || hasK l (j + 1) x) = false by rw [Hs.out, hI, e1]; rfl)
                                        go_wp2
                                        go_quiet (fail)
                                        go_wp2
                                        go_roundw
                                        case rel => exact ⟨j + 1, by omega, by go_num, by rw [hv.out], below_drewN hb14 _⟩
                                        case measure => simp [intOf]; omega
                                  · have e : j = l.length := by omega
                                    subst e
                                    have j1 : ¬ (l.length : Int) < l.length := by omega
                                    cases hI : (x == sp || hasK l l.length x) with
                                    | true =>
                                      go_wp2
                                      go_quiet (fail)
                                      go_wp2
                                      go_roundw
                                      case rel => exact ⟨i + 1, by omega, by go_num, below_drewN hb14 _⟩
                                      case measure => simp [intOf]; omega
                                    | false =>
                                      have hd := Hlv.out hI
                                      go_wp2
                                      go_quiet ((go_at_call 13; exact Calls.quiet_of_same (at_same _ hR14.drewN hn4 _)))
                                      go_wp2
                                      go_roundw
                                      case rel => exact ⟨i + 1, by omega, by go_num, below_drewN hb14 _⟩
                                      case measure => simp [intOf]; omega
                              · have e : i = q := by omega
                                subst e
                                have i1 : ¬ (i : Int) < i := by omega
                                rw [Hused.out]
                                by_cases hr0 : 0 < roundsF l
                                · have r1 : (0 : Int) < roundsF l := by omega
                                  simp only [hr0, decide_true]
                                  go_wp2
                                  go_ret
                                  exact ⟨rfl, hbw13⟩
                                · have r1 : ¬ (0 : Int) < roundsF l := by omega
                                  simp only [hr0, decide_false]
                                  go_wp2
                                  go_ret
                                  exact ⟨rfl, hbw13⟩
          · skip
            have hbad : orderBad l sp = 5 := by rw [bad_sh (by omega) hI, hS, hT]; rfl
            have hmo : mo = 0 := Hm0.out (by rw [hbad]; decide)
            subst hmo
            rw [hbad]
            simp only [errV, sent, Nat.reduceAdd]
            clear hbad
            go_wp2_with fail
            refine (His5.out _ hbw).mono ?_
            rintro e w3 ⟨rfl, hb3⟩
            have Hcy := Lib.hid (cyc_tw (by omega) hI hT)
            go_wp2_with fail
            refine (Hcyc.out _ (hbw.trans (hb3.mono hbw.size))).mono ?_
            rw [Hcy.out]
            rintro e w4 ⟨rfl, hb4⟩
            go_wp2
            go_ret
            exact ⟨rfl, (hbw.trans (hb3.mono hbw.size)).trans (hb4.mono (hbw.trans (hb3.mono hbw.size)).size)⟩
          · skip
            have hbad : orderBad l sp = 5 := by rw [bad_sh (by omega) hI, hS, hT]; rfl
            have hmo : mo = 0 := Hm0.out (by rw [hbad]; decide)
            subst hmo
            rw [hbad]
            simp only [errV, sent, Nat.reduceAdd]
            clear hbad
            go_wp2_with fail
            refine (His5.out _ hbw).mono ?_
            rintro e w3 ⟨rfl, hb3⟩
            go_wp2
            go_ret
            exact ⟨rfl, hbw.trans (hb3.mono hbw.size)⟩
          · skip
            have hbad : orderBad l sp = 5 := by rw [bad_sh (by omega) hI, hS, hT]; rfl
            have hmo : mo = 0 := Hm0.out (by rw [hbad]; decide)
            subst hmo
            rw [hbad]
            simp only [errV, sent, Nat.reduceAdd]
            clear hbad
            go_wp2_with fail
            refine (His5.out _ hbw).mono ?_
            rintro e w3 ⟨rfl, hb3⟩
            have Hcy := Lib.hid (cyc_tw (by omega) hI hT)
            go_wp2_with fail
            refine (Hcyc.out _ (hbw.trans (hb3.mono hbw.size))).mono ?_
            rw [Hcy.out]
            rintro e w4 ⟨rfl, hb4⟩
            go_wp2
            go_ret
            exact ⟨rfl, (hbw.trans (hb3.mono hbw.size)).trans (hb4.mono (hbw.trans (hb3.mono hbw.size)).size)⟩
end Go.Proofs.YteapnfobcebpfaaDoor
