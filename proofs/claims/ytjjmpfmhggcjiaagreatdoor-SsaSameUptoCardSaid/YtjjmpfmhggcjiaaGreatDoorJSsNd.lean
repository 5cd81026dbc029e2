/-
 SsNd.
-/
import Derived.Test.YtjjmpfmhggcjiaaGreatDoorJSsO2
set_option linter.unusedSimpArgs false
set_option linter.unusedVariables false
namespace Go.Proofs.YtjjmpfmhggcjiaaGreatDoor
open Go.RowKit Go.Maps
/-- The rules on all of a function's nodes. -/
def OfAll (p : Prg) (f : Fn) : Prop := ∀ {w : World} {S : Nat → Prop} {gc gv : Nat} {vs : List Vs} {gb gp : Nat} {blk plc : List Int} {tv lv dv : Value}, NodesIn w S gc gv p vs f gb gp blk plc tv lv dv → ∀ {i : Nat}, i < f.nodes.length →
 Calls Tryz.prog 94 #[.pointer (some ⟨gc, 0, none⟩), .int .i64 i] w (OfPost w (formF p f blk i))
/-- A question that is answered. -/
def DecPost (w : World) (P : Prop) (e : Ending) (w' : World) : Prop := Below w.heap.size w w' ∧ ((e = .returned (.bool true) ∧ P) ∨ (e = .returned (.bool false) ∧ ¬ P))
def bad1P (x : Nd) (fm : Form) : Prop := x.kind ≠ fm.kind ∨ x.args.length ≠ fm.args.size ∨ (fm.a = false ∧ x.a ≠ 0) ∨ (fm.b = false ∧ x.b ≠ 0) ∨ (fm.n = false ∧ x.n ≠ 0)
def bad2P (f : Fn) (x : Nd) (fm : Form) : Prop := ¬ (if fm.st = true then inB x.st f.states.length = true else x.st = -1)
theorem str_eqb3 (s t : ByteArray) : (s.toList == t.toList) = decide (s = t) := by
 rw [Bool.eq_iff_iff]
 simp only [beq_iff_eq, decide_eq_true_eq]
 exact ⟨fun h => ByteArray.ext (Array.ext' (by rw [ByteArray.toList_eq, ByteArray.toList_eq] at h; exact h)), fun h => by rw [h]⟩
theorem str_neq {s t : ByteArray} (h : s ≠ t) : (s.toList == t.toList) = false := (str_eqb3 s t).trans (decide_eq_false h)
theorem str_eqq {s t : ByteArray} (h : s = t) : (s.toList == t.toList) = true := (str_eqb3 s t).trans (decide_eq_true h)
set_option maxRecDepth 100000 in
set_option maxHeartbeats 16000000 in
open Classical in
theorem nodes_any {w : World} {S : Nat → Prop} {gc gv : Nat} {p : Prg} {vs : List Vs} {f : Fn} {gb gp : Nat} {blk plc : List Int} {tv lv dv : Value} (hN : NodesIn w S gc gv p vs f gb gp blk plc tv lv dv) (hOf : OfAll p f) (har : ∀ i, i < f.nodes.length → (ndAt f i).args.length ≤ 1000000) :
 Calls Tryz.prog 43 #[.pointer (some ⟨gc, 0, none⟩)] w (DecPost w (nodesOk p f blk)) := by
 have HPt := Lib.hid (fun w' (h1 : Below w.heap.size w w') (h2 : nodesOk p f blk) => (show DecPost w (nodesOk p f blk) (.returned (.bool true)) w' from ⟨h1, .inl ⟨rfl, h2⟩⟩))
 have HPf := Lib.hid (fun w' (h1 : Below w.heap.size w w') (h2 : ¬ nodesOk p f blk) => (show DecPost w (nodesOk p f blk) (.returned (.bool false)) w' from ⟨h1, .inr ⟨rfl, h2⟩⟩))
 have HN := Lib.hid hN
 have Har := Lib.hid har
 obtain ⟨Ac, cc, Am, cm, An, cn, Ab, cb, As, cs, hC⟩ := hN.chk
 have c5 : w.cell? ⟨gc, 5, none⟩ = some (.slice An f.nodes.length cn) := hC.blk.cell 5
 have lC := hC.blk.lt
 have hnd := hN.nd
 have HC := Lib.hid hC
 generalize DecPost w (nodesOk p f blk) = Post at *
 clear hN hC har
 go_enter Tryz.func43, Tryz.ntmps43
 go_wp2
 go_loopw [15] (fun iv wr => ∃ i : Nat, i ≤ f.nodes.length ∧ iv = .int .i64 i ∧ Hid (∀ j, j < i → nodeOk p f blk j) ∧ Hid (Below w.heap.size w wr)) (fun iv _ => f.nodes.length - (intOf iv).toNat)
 case atStart => exact ⟨0, Nat.zero_le _, rfl, Lib.hid (fun j h => by omega), Lib.hid (Below.refl _ _)⟩
 case round =>
  clear c5 lC
  obtain ⟨i, hi, rfl, HO, HB0⟩ := hrel
  by_cases hlt : i < f.nodes.length
  · have i0 : (0 : Int) ≤ i := by omega
    have i1 : (i : Int) < f.nodes.length := by omega
    have hC1 := HC.out.below HB0.out
    obtain ⟨bn, on_, A1, c1n, hAn, hSn, v0, v1, v2, v3, v4, v5, v6, rr⟩ := rd_nd hC1.fn.nodes hlt
    subst hAn
    have lbn := (hC1.lt bn hSn).1
    have hal : (f.nodes.getD i default).args.length ≤ 1000000 := Har.out i hlt
    obtain ⟨x, hxx⟩ : ∃ x, f.nodes.getD i default = x := ⟨_, rfl⟩
    rw [hxx] at v0 v1 v2 v3 v4 v5 v6 rr hal
    have Hx := Lib.hid (show ndAt f i = x from hxx)
    obtain ⟨op, xa, xb, st, kd, xn, args⟩ := x
    simp only at v0 v1 v2 v3 v4 v5 v6 rr hal
    have hbW := HB0.out.alloc HB0.out.size (.cells #[.int .i64 op, .int .i64 xa, .int .i64 xb, .int .i64 st, .string kd, .int .i64 xn, .slice A1 args.length c1n] 59)
    have XW := Blk.new wr 59 #[.int .i64 op, .int .i64 xa, .int .i64 xb, .int .i64 st, .string kd, .int .i64 xn, .slice A1 args.length c1n]
    have HRR := Lib.hid (rr.rd (B := w.heap.size) (fun b hb => (HC.out.lt b hb).1))
    have lwr := HB0.out.size
    clear hxx rr hC1
    go_upto_region 4 with (fail)
    obtain ⟨g4, hg4⟩ : ∃ g4, g4 = wr.heap.size := ⟨_, rfl⟩
    rw [← hg4] at XW lwr ⊢
    have Hg4 := Lib.hid hg4
    clear hg4 v0 v1 v2 v3 v4 v5 v6 lbn
    generalize wr.alloc (.cells #[.int .i64 op, .int .i64 xa, .int .i64 xb, .int .i64 st, .string kd, .int .i64 xn, .slice A1 args.length c1n] 59) = w2 at *
    have hof := hOf (HN.out.below hbW) hlt
    have Hof := Lib.hid hof
    clear hof
    have lXW := XW.lt
    go_wp2_with fail
    refine Hof.out.mono ?_
    rintro e w3 ⟨hb23, fm, rfl, hfm⟩
    have X3 := XW.below hb23 lXW
    have hb3 := hbW.trans (hb23.mono hbW.size)
    have HRR3 := Lib.hid (HRR.out.keep (fun q hq => (hb3.cell hq).trans (HB0.out.cell hq).symm))
    clear XW hbW hb23 lXW
    obtain ⟨fk, fg, fa, fb, fn, fs⟩ := fm
    have T4 := Blk.new w3 172 #[.string fk, .string fg, .bool fa, .bool fb, .bool fn, .bool fs]
    have X4 := X3.alloc (.cells #[.string fk, .string fg, .bool fa, .bool fb, .bool fn, .bool fs] 172)
    have hb4 := hb3.alloc hb3.size (.cells #[.string fk, .string fg, .bool fa, .bool fb, .bool fn, .bool fs] 172)
    have hg45 : g4 < w3.heap.size := X3.lt
    go_upto_region 5 with (fail)
    obtain ⟨g5, hg5⟩ : ∃ g5, g5 = w3.heap.size := ⟨_, rfl⟩
    rw [← hg5] at T4 hg45 ⊢
    clear hg5 X3 hb3
    generalize w3.alloc (.cells #[.string fk, .string fg, .bool fa, .bool fb, .bool fn, .bool fs] 172) = w4 at *
    have t0 := T4.at0
    have t1 := T4.at1
    have t2 := T4.at2
    have t3 := T4.at3
    have t4 : w4.cell? ⟨g5, 4, none⟩ = some (.bool fn) := T4.cell 4
    have t5 : w4.cell? ⟨g5, 5, none⟩ = some (.bool fs) := T4.cell 5
    have x1 := X4.at1
    have x2 := X4.at2
    have x3 := X4.at3
    have x4 : w4.cell? ⟨g4, 4, none⟩ = some (.string kd) := X4.cell 4
    have x5 : w4.cell? ⟨g4, 5, none⟩ = some (.int .i64 xn) := X4.cell 5
    have x6 : w4.cell? ⟨g4, 6, none⟩ = some (.slice A1 args.length c1n) := X4.cell 6
    have lT := T4.lt
    have lX := X4.lt
    clear T4 X4
    have Hb4 := Lib.hid hb4
    have HRR4 := Lib.hid (HRR.out.keep (w' := w4) (fun q hq => (hb4.cell hq).trans (HB0.out.cell hq).symm))
    clear hb4 HRR HRR3
    cases hr : formF p f blk i with
    | none =>
      have HNo := Lib.hid (show ¬ nodesOk p f blk from fun h => by
       obtain ⟨fm', h1, _⟩ := h i hlt
       rw [hr] at h1
       cases h1)
      rw [hr] at hfm
      clear hr hfm
      simp only [Option.isSome_none]
      go_wp2
      exact HPf.out _ Hb4.out HNo.out
    | some fm0 =>
      rw [hr] at hfm
      have e0 := hfm rfl
      cases e0
      have Hr := Lib.hid (show formF p f blk i = some ⟨fk, fg, fa, fb, fn, fs⟩ from hr)
      clear hr hfm
      simp only [Option.isSome_some]
      have Hok := Lib.hid (show FormOk f ⟨op, xa, xb, st, kd, xn, args⟩ ⟨fk, fg, fa, fb, fn, fs⟩ → nodeOk p f blk i from fun h => ⟨_, Hr.out, by rw [Hx.out]; exact h⟩)
      have Hno := Lib.hid (show ¬ FormOk f ⟨op, xa, xb, st, kd, xn, args⟩ ⟨fk, fg, fa, fb, fn, fs⟩ → ¬ nodesOk p f blk from fun h h2 => by
       obtain ⟨fm', h3, h4⟩ := h2 i hlt
       rw [Hr.out] at h3
       cases h3
       rw [Hx.out] at h4
       exact h h4)
      obtain ⟨bad1, hbad⟩ : ∃ bad1 : Bool, bad1 = decide (bad1P ⟨op, xa, xb, st, kd, xn, args⟩ ⟨fk, fg, fa, fb, fn, fs⟩) := ⟨_, rfl⟩
      have Hbad := Lib.hid hbad
      clear hbad
      go_cut [73] from 26 to 73 (fun v wx => v = .bool bad1 ∧ wx = w4)
      case first =>
       -- dev<
       clear Hok Hno Hr
       by_cases hkd : kd = fk
       · have gk := str_eqq hkd
         by_cases hln : args.length = fg.size
         · have gl : ((args.length : Int) != (fg.size : Int)) = false := by simp; omega
           have Hkd := Lib.hid hkd
           have Hln := Lib.hid hln
           clear hkd hln
           by_cases ha : fa = true
           · have ha' := ha
             subst ha
             by_cases hb : fb = true
             · have hb' := hb
               subst hb
               by_cases hn : fn = true
               · have hn' := hn
                 subst hn
                 have HB := Lib.hid (show bad1 = false by
                  rw [Hbad.out]
                  exact decide_eq_false (by
                   intro h
                   unfold bad1P at h
                   simp only at h
                   rcases h with h | h | h | h | h
                   · exact h Hkd.out
                   · exact h Hln.out
                   · first | exact absurd (ha'.symm.trans h.1) (by simp) | exact h.2 ha'
                   · first | exact absurd (hb'.symm.trans h.1) (by simp) | exact h.2 hb'
                   · first | exact absurd (hn'.symm.trans h.1) (by simp) | exact h.2 hn'))
                 clear Hbad
                 try clear ha'
                 try clear hb'
                 try clear hn'
                 go_wp2
                 go_meet
                 exact ⟨by rw [HB.out], rfl⟩
               · have hnf : fn = false := by simpa using hn
                 subst hnf
                 by_cases hn' : xn = 0
                 · have gn : (xn != 0) = false := by simpa using hn'
                   have HB := Lib.hid (show bad1 = false by
                    rw [Hbad.out]
                    exact decide_eq_false (by
                     intro h
                     unfold bad1P at h
                     simp only at h
                     rcases h with h | h | h | h | h
                     · exact h Hkd.out
                     · exact h Hln.out
                     · first | exact absurd (ha'.symm.trans h.1) (by simp) | exact h.2 ha'
                     · first | exact absurd (hb'.symm.trans h.1) (by simp) | exact h.2 hb'
                     · first | exact absurd (hn'.symm.trans h.1) (by simp) | exact h.2 hn'))
                   clear Hbad
                   try clear ha'
                   try clear hb'
                   try clear hn'
                   go_wp2
                   go_meet
                   exact ⟨by rw [HB.out], rfl⟩
                 · have gn : (xn != 0) = true := by simpa using hn'
                   have HB := Lib.hid (show bad1 = true by rw [Hbad.out]; exact decide_eq_true (.inr (.inr (.inr (.inr ⟨rfl, hn'⟩)))))
                   clear Hbad
                   try clear ha'
                   try clear hb'
                   try clear hn'
                   go_wp2
                   go_meet
                   exact ⟨by rw [HB.out], rfl⟩
             · have hbf : fb = false := by simpa using hb
               subst hbf
               by_cases hb' : xb = 0
               · have gb : (xb != 0) = false := by simpa using hb'
                 by_cases hn : fn = true
                 · have hn' := hn
                   subst hn
                   have HB := Lib.hid (show bad1 = false by
                    rw [Hbad.out]
                    exact decide_eq_false (by
                     intro h
                     unfold bad1P at h
                     simp only at h
                     rcases h with h | h | h | h | h
                     · exact h Hkd.out
                     · exact h Hln.out
                     · first | exact absurd (ha'.symm.trans h.1) (by simp) | exact h.2 ha'
                     · first | exact absurd (hb'.symm.trans h.1) (by simp) | exact h.2 hb'
                     · first | exact absurd (hn'.symm.trans h.1) (by simp) | exact h.2 hn'))
                   clear Hbad
                   try clear ha'
                   try clear hb'
                   try clear hn'
                   go_wp2
                   go_meet
                   exact ⟨by rw [HB.out], rfl⟩
                 · have hnf : fn = false := by simpa using hn
                   subst hnf
                   by_cases hn' : xn = 0
                   · have gn : (xn != 0) = false := by simpa using hn'
                     have HB := Lib.hid (show bad1 = false by
                      rw [Hbad.out]
                      exact decide_eq_false (by
                       intro h
                       unfold bad1P at h
                       simp only at h
                       rcases h with h | h | h | h | h
                       · exact h Hkd.out
                       · exact h Hln.out
                       · first | exact absurd (ha'.symm.trans h.1) (by simp) | exact h.2 ha'
                       · first | exact absurd (hb'.symm.trans h.1) (by simp) | exact h.2 hb'
                       · first | exact absurd (hn'.symm.trans h.1) (by simp) | exact h.2 hn'))
                     clear Hbad
                     try clear ha'
                     try clear hb'
                     try clear hn'
                     go_wp2
                     go_meet
                     exact ⟨by rw [HB.out], rfl⟩
                   · have gn : (xn != 0) = true := by simpa using hn'
                     have HB := Lib.hid (show bad1 = true by rw [Hbad.out]; exact decide_eq_true (.inr (.inr (.inr (.inr ⟨rfl, hn'⟩)))))
                     clear Hbad
                     try clear ha'
                     try clear hb'
                     try clear hn'
                     go_wp2
                     go_meet
                     exact ⟨by rw [HB.out], rfl⟩
               · have gb : (xb != 0) = true := by simpa using hb'
                 have HB := Lib.hid (show bad1 = true by rw [Hbad.out]; exact decide_eq_true (.inr (.inr (.inr (.inl ⟨rfl, hb'⟩)))))
                 clear Hbad
                 try clear ha'
                 try clear hb'
                 try clear hn'
                 go_wp2
                 go_meet
                 exact ⟨by rw [HB.out], rfl⟩
           · have haf : fa = false := by simpa using ha
             subst haf
             by_cases ha' : xa = 0
             · have ga : (xa != 0) = false := by simpa using ha'
               by_cases hb : fb = true
               · have hb' := hb
                 subst hb
                 by_cases hn : fn = true
                 · have hn' := hn
                   subst hn
                   have HB := Lib.hid (show bad1 = false by
                    rw [Hbad.out]
                    exact decide_eq_false (by
                     intro h
                     unfold bad1P at h
                     simp only at h
                     rcases h with h | h | h | h | h
                     · exact h Hkd.out
                     · exact h Hln.out
                     · first | exact absurd (ha'.symm.trans h.1) (by simp) | exact h.2 ha'
                     · first | exact absurd (hb'.symm.trans h.1) (by simp) | exact h.2 hb'
                     · first | exact absurd (hn'.symm.trans h.1) (by simp) | exact h.2 hn'))
                   clear Hbad
                   try clear ha'
                   try clear hb'
                   try clear hn'
                   go_wp2
                   go_meet
                   exact ⟨by rw [HB.out], rfl⟩
                 · have hnf : fn = false := by simpa using hn
                   subst hnf
                   by_cases hn' : xn = 0
                   · have gn : (xn != 0) = false := by simpa using hn'
                     have HB := Lib.hid (show bad1 = false by
                      rw [Hbad.out]
                      exact decide_eq_false (by
                       intro h
                       unfold bad1P at h
                       simp only at h
                       rcases h with h | h | h | h | h
                       · exact h Hkd.out
                       · exact h Hln.out
                       · first | exact absurd (ha'.symm.trans h.1) (by simp) | exact h.2 ha'
                       · first | exact absurd (hb'.symm.trans h.1) (by simp) | exact h.2 hb'
                       · first | exact absurd (hn'.symm.trans h.1) (by simp) | exact h.2 hn'))
                     clear Hbad
                     try clear ha'
                     try clear hb'
                     try clear hn'
                     go_wp2
                     go_meet
                     exact ⟨by rw [HB.out], rfl⟩
                   · have gn : (xn != 0) = true := by simpa using hn'
                     have HB := Lib.hid (show bad1 = true by rw [Hbad.out]; exact decide_eq_true (.inr (.inr (.inr (.inr ⟨rfl, hn'⟩)))))
                     clear Hbad
                     try clear ha'
                     try clear hb'
                     try clear hn'
                     go_wp2
                     go_meet
                     exact ⟨by rw [HB.out], rfl⟩
               · have hbf : fb = false := by simpa using hb
                 subst hbf
                 by_cases hb' : xb = 0
                 · have gb : (xb != 0) = false := by simpa using hb'
                   by_cases hn : fn = true
                   · have hn' := hn
                     subst hn
                     have HB := Lib.hid (show bad1 = false by
                      rw [Hbad.out]
                      exact decide_eq_false (by
                       intro h
                       unfold bad1P at h
                       simp only at h
                       rcases h with h | h | h | h | h
                       · exact h Hkd.out
                       · exact h Hln.out
                       · first | exact absurd (ha'.symm.trans h.1) (by simp) | exact h.2 ha'
                       · first | exact absurd (hb'.symm.trans h.1) (by simp) | exact h.2 hb'
                       · first | exact absurd (hn'.symm.trans h.1) (by simp) | exact h.2 hn'))
                     clear Hbad
                     try clear ha'
                     try clear hb'
                     try clear hn'
                     go_wp2
                     go_meet
                     exact ⟨by rw [HB.out], rfl⟩
                   · have hnf : fn = false := by simpa using hn
                     subst hnf
                     by_cases hn' : xn = 0
                     · have gn : (xn != 0) = false := by simpa using hn'
                       have HB := Lib.hid (show bad1 = false by
                        rw [Hbad.out]
                        exact decide_eq_false (by
                         intro h
                         unfold bad1P at h
                         simp only at h
                         rcases h with h | h | h | h | h
                         · exact h Hkd.out
                         · exact h Hln.out
                         · first | exact absurd (ha'.symm.trans h.1) (by simp) | exact h.2 ha'
                         · first | exact absurd (hb'.symm.trans h.1) (by simp) | exact h.2 hb'
                         · first | exact absurd (hn'.symm.trans h.1) (by simp) | exact h.2 hn'))
                       clear Hbad
                       try clear ha'
                       try clear hb'
                       try clear hn'
                       go_wp2
                       go_meet
                       exact ⟨by rw [HB.out], rfl⟩
                     · have gn : (xn != 0) = true := by simpa using hn'
                       have HB := Lib.hid (show bad1 = true by rw [Hbad.out]; exact decide_eq_true (.inr (.inr (.inr (.inr ⟨rfl, hn'⟩)))))
                       clear Hbad
                       try clear ha'
                       try clear hb'
                       try clear hn'
                       go_wp2
                       go_meet
                       exact ⟨by rw [HB.out], rfl⟩
                 · have gb : (xb != 0) = true := by simpa using hb'
                   have HB := Lib.hid (show bad1 = true by rw [Hbad.out]; exact decide_eq_true (.inr (.inr (.inr (.inl ⟨rfl, hb'⟩)))))
                   clear Hbad
                   try clear ha'
                   try clear hb'
                   try clear hn'
                   go_wp2
                   go_meet
                   exact ⟨by rw [HB.out], rfl⟩
             · have ga : (xa != 0) = true := by simpa using ha'
               have HB := Lib.hid (show bad1 = true by rw [Hbad.out]; exact decide_eq_true (.inr (.inr (.inl ⟨rfl, ha'⟩))))
               clear Hbad
               try clear ha'
               try clear hb'
               try clear hn'
               go_wp2
               go_meet
               exact ⟨by rw [HB.out], rfl⟩
         · have gl : ((args.length : Int) != (fg.size : Int)) = true := by simp; omega
           have HB := Lib.hid (show bad1 = true by rw [Hbad.out]; exact decide_eq_true (.inr (.inl hln)))
           clear hln hkd Hbad
           go_wp2
           go_meet
           exact ⟨by rw [HB.out], rfl⟩
       · have gk := str_neq hkd
         have HB := Lib.hid (show bad1 = true by rw [Hbad.out]; exact decide_eq_true (.inl hkd))
         clear hkd Hbad
         go_wp2
         go_meet
         exact ⟨by rw [HB.out], rfl⟩
       -- dev>
      case rest =>
       obtain ⟨rfl, hwc⟩ := hcut
       rw [hwc]
       clear hwc wc
       cases bad1 with
       | true =>
         have HNo2 := Lib.hid (Hno.out (fun hf => by
          have h := of_decide_eq_true Hbad.out.symm
          unfold bad1P at h
          rcases h with h | h | h | h | h
          · exact h hf.kind
          · exact h hf.len
          · exact h.2 (hf.a h.1)
          · exact h.2 (hf.b h.1)
          · exact h.2 (hf.n h.1)))
         go_wp2
         exact HPf.out _ Hb4.out HNo2.out
       | false =>
         have hok1 := of_decide_eq_false Hbad.out.symm
         have hlen : args.length = fg.size := Decidable.byContradiction fun h => hok1 (.inr (.inl h))
         have Hlen := Lib.hid hlen
         have Hok1 := Lib.hid hok1
         clear hok1 hlen Hbad t0 t2 t3 t4 x1 x2 x4 x5
         have c7 : w4.cell? ⟨gc, 7, none⟩ = some (.slice As f.states.length cs) := (HC.out.below Hb4.out).blk.cell 7
         have c5 : w4.cell? ⟨gc, 5, none⟩ = some (.slice (some ⟨bn, on_, none⟩) f.nodes.length cn) := (HC.out.below Hb4.out).blk.cell 5
         have lC4 := (HC.out.below Hb4.out).blk.lt
         obtain ⟨bad2, hbad2⟩ : ∃ bad2 : Bool, bad2 = decide (bad2P f ⟨op, xa, xb, st, kd, xn, args⟩ ⟨fk, fg, fa, fb, fn, fs⟩) := ⟨_, rfl⟩
         have Hbad2 := Lib.hid hbad2
         clear hbad2
         go_upto_region 7 with (fail)
         go_cut [97] from 74 to 97 (fun v wx => v = .bool bad2 ∧ ∃ q, wx = w4.drewN q)
         case first =>
          clear Hok Hno Hr Hok1
          cases fs with
          | true =>
            cases hin : inB st f.states.length with
            | true =>
              have Hin := Lib.hid hin
              have HB := Lib.hid (show bad2 = false by rw [Hbad2.out]; exact decide_eq_false (fun h => h (by show inB st f.states.length = true; exact hin)))
              clear hin Hbad2
              go_quiet ((go_at_call 86; exact Calls.quiet_of_same (ssaIn_eq Hin.out _)))
              rename Nat => q
              go_wp2
              go_meet
              exact ⟨by rw [HB.out], q, rfl⟩
            | false =>
              have Hin := Lib.hid hin
              have HB := Lib.hid (show bad2 = true by rw [Hbad2.out]; exact decide_eq_true (fun h => by have h' : inB st f.states.length = true := h; rw [hin] at h'; cases h'))
              clear hin Hbad2
              go_quiet ((go_at_call 86; exact Calls.quiet_of_same (ssaIn_eq Hin.out _)))
              rename Nat => q
              go_wp2
              go_meet
              exact ⟨by rw [HB.out], q, rfl⟩
          | false =>
            by_cases hs : st = -1
            · have gs : (st != -1) = false := by simpa using hs
              have HB := Lib.hid (show bad2 = false by rw [Hbad2.out]; exact decide_eq_false (fun h => h (by show st = -1; exact hs)))
              clear hs Hbad2
              go_quiet (fail)
              rename Nat => q
              go_wp2
              go_meet
              exact ⟨by rw [HB.out], q, rfl⟩
            · have gs : (st != -1) = true := by simpa using hs
              have HB := Lib.hid (show bad2 = true by rw [Hbad2.out]; exact decide_eq_true (fun h => hs h))
              clear hs Hbad2
              go_quiet (fail)
              rename Nat => q
              go_wp2
              go_meet
              exact ⟨by rw [HB.out], q, rfl⟩
         case rest =>
          obtain ⟨rfl, q, hwc⟩ := hcut
          rw [hwc]
          clear hwc wc x3 t5 c7
          cases bad2 with
          | true =>
            have HNo2 := Lib.hid (Hno.out (fun hf => of_decide_eq_true Hbad2.out.symm hf.st))
            go_wp2
            exact HPf.out _ (below_drewN Hb4.out q) HNo2.out
          | false =>
            have hb2 : ¬ bad2P f ⟨op, xa, xb, st, kd, xn, args⟩ ⟨fk, fg, fa, fb, fn, fs⟩ := of_decide_eq_false Hbad2.out.symm
            have Hst := Lib.hid (Classical.not_not.1 hb2)
            clear hb2
            have HFO := Lib.hid (show (∀ (k : Nat) (a : Int), args[k]? = some a → argOk f ⟨fk, fg, fa, fb, fn, fs⟩ k a) → nodeOk p f blk i from fun h => Hok.out ⟨Decidable.byContradiction fun h => Hok1.out (.inl h), Hlen.out, fun h => Decidable.byContradiction fun h' => Hok1.out (.inr (.inr (.inl ⟨h, h'⟩))), fun h => Decidable.byContradiction fun h' => Hok1.out (.inr (.inr (.inr (.inl ⟨h, h'⟩)))), fun h => Decidable.byContradiction fun h' => Hok1.out (.inr (.inr (.inr (.inr ⟨h, h'⟩)))), Hst.out, h⟩)
            have HAN := Lib.hid (show ∀ (k : Nat) (a : Int), args[k]? = some a → ¬ argOk f ⟨fk, fg, fa, fb, fn, fs⟩ k a → ¬ nodesOk p f blk from fun k a h1 h2 => Hno.out (fun hf => h2 (hf.args k a h1)))
            clear Hbad2 Hok Hno Hok1 Hr
            go_wp2
            go_loopw [101] (fun jv wx => ∃ (k q : Nat), k ≤ args.length ∧ jv = .int .i64 k ∧ Hid (∀ (j : Nat) (a : Int), j < k → args[j]? = some a → argOk f ⟨fk, fg, fa, fb, fn, fs⟩ j a) ∧ wx = w4.drewN q) (fun jv _ => args.length - (intOf jv).toNat)
            case atStart => exact ⟨0, q, Nat.zero_le _, rfl, Lib.hid (fun j a h => by omega), rfl⟩
            case round =>
             clear x6
             obtain ⟨k, q, hk, rfl, HA, rfl⟩ := hrel
             by_cases hkl : k < args.length
             · have k0 : (0 : Int) ≤ k := by omega
               have k1 : (k : Int) < args.length := by omega
               obtain ⟨a, hak⟩ : ∃ a, args[k]? = some a := ⟨_, List.getElem?_eq_getElem hkl⟩
               obtain ⟨br, orr, rfl, hbr, z0⟩ := ints_at HRR4.out (k := k) hkl
               have hav : args[k]?.getD 0 = a := by rw [hak]; rfl
               rw [hav] at z0
               have HAk := Lib.hid hak
               have hk1 : (k : Int) + 1 ≤ fg.size := by have := Hlen.out; omega
               have lbr : br < w4.heap.size := by have := Hb4.out.size; omega
               clear hak hav
               have d5 : (w4.drewN q).cell? ⟨gc, 5, none⟩ = _ := c5
               have dt1 : (w4.drewN q).cell? ⟨g5, 1, none⟩ = _ := t1
               have dz0 : (w4.drewN q).cell? ⟨br, orr + k, none⟩ = _ := z0
               have dlC : gc < (w4.drewN q).heap.size := lC4
               have dlT : g5 < (w4.drewN q).heap.size := lT
               have dlb : br < (w4.drewN q).heap.size := lbr
               have HN5 := Lib.hid (show RdL ndShape (w4.drewN q) S (some ⟨bn, on_, none⟩) f.nodes ∧ ∀ b, S b → b < (w4.drewN q).heap.size from ⟨(HC.out.below Hb4.out).fn.nodes.keep (fun _ _ => rfl), fun b hb => ((HC.out.below Hb4.out).lt b hb).1⟩)
               clear z0 lbr
               generalize hw5 : w4.drewN q = w5 at *
               have Hw5 := Lib.hid hw5
               have Hb5 := Lib.hid (show Below w.heap.size w w5 from hw5 ▸ below_drewN Hb4.out q)
               clear hw5
               cases hin : inB a f.nodes.length with
               | false =>
                 have Hin := Lib.hid hin
                 have HNo2 := Lib.hid (HAN.out k a HAk.out (fun h => by
                  have : inB a f.nodes.length = true := by unfold inB; simp; exact ⟨h.1, h.2.1⟩
                  rw [hin] at this
                  cases this))
                 clear hin
                 go_wp2
                 go_quiet ((go_at_call 86; exact Calls.quiet_of_same (ssaIn_eq Hin.out _)))
                 rename Nat => q2
                 go_wp2
                 exact HPf.out _ (below_drewN Hb5.out _) HNo2.out
               | true =>
                 have hx := in_true hin
                 obtain ⟨m, rfl⟩ : ∃ m : Nat, a = m := ⟨a.toNat, by omega⟩
                 have hml : m < f.nodes.length := by omega
                 have m0 : (0 : Int) ≤ m := by omega
                 have m1 : (m : Int) < f.nodes.length := by omega
                 obtain ⟨bm, om, A3, c3n, hAm, hSm, -, -, -, -, y4, -, -, -⟩ := rd_nd HN5.out.1 hml
                 cases hAm
                 have lbm := HN5.out.2 bn hSm
                 have Hin := Lib.hid hin
                 have harg : argOk f ⟨fk, fg, fa, fb, fn, fs⟩ k m ↔ (f.nodes.getD m default).kind = fg.extract k (k + 1) := by
                  unfold argOk
                  simp only [Int.toNat_natCast]
                  exact ⟨fun h => h.2.2, fun h => ⟨m0, m1, h⟩⟩
                 have Harg := Lib.hid harg
                 clear hin hx harg
                 generalize (f.nodes.getD m default).kind = mk at *
                 by_cases he : mk = fg.extract k (k + 1)
                 · have ge := str_eqq he
                   have HA2 := Lib.hid (show ∀ (j : Nat) (a : Int), j < k + 1 → args[j]? = some a → argOk f ⟨fk, fg, fa, fb, fn, fs⟩ j a from fun j a' hj h => by
                    by_cases e : j = k
                    · subst e
                      rw [HAk.out] at h
                      cases h
                      exact Harg.out.2 he
                    · exact HA.out j a' (by omega) h)
                   clear he
                   go_wp2
                   go_quiet ((go_at_call 86; exact Calls.quiet_of_same (ssaIn_eq Hin.out _)))
                   rename Nat => q2
                   go_wp2
                   go_roundw
                   case rel => exact ⟨k + 1, q + q2, by omega, by go_num, HA2, by rw [← Hw5.out]; exact World.drewN_drewN _ _ _⟩
                   case measure => simp [intOf]; omega
                 · have ge := str_neq he
                   have HNo2 := Lib.hid (HAN.out k m HAk.out (fun h => he (Harg.out.1 h)))
                   clear he
                   go_wp2
                   go_quiet ((go_at_call 86; exact Calls.quiet_of_same (ssaIn_eq Hin.out _)))
                   rename Nat => q2
                   go_wp2
                   exact HPf.out _ (below_drewN Hb5.out _) HNo2.out
             · have e : k = args.length := by omega
               have hge : ¬ (k : Int) < args.length := by omega
               have HO2 := Lib.hid (show ∀ j, j < i + 1 → nodeOk p f blk j from fun j hj => by
                by_cases e2 : j = i
                · subst e2
                  exact HFO.out (fun k' a' h => HA.out k' a' (by have := (List.getElem?_eq_some_iff.1 h).1; omega) h)
                · exact HO.out j (by omega))
               clear hkl e
               go_wp2
               go_roundw
               case rel => exact ⟨i + 1, by omega, by go_num, HO2, Lib.hid (below_drewN Hb4.out _)⟩
               case measure => simp [intOf]; omega
  · obtain rfl : i = f.nodes.length := by omega
    have hge : ¬ (f.nodes.length : Int) < f.nodes.length := by omega
    clear hlt
    go_wp2
    exact HPt.out _ HB0.out (fun j hj => HO.out j hj)
end Go.Proofs.YtjjmpfmhggcjiaaGreatDoor
