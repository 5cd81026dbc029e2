/-
  When two programs are the same, continued: rows of methods, programs; whether a program is light. Written by gen_pgsame4.py.
-/
import Derived.Test.YtcmlfaikdegbfaaDoorPgSame3
namespace Go.Proofs.YtcmlfaikdegbfaaDoor
open Go.RowKit Go.Maps

set_option maxRecDepth 100000 in
set_option maxHeartbeats 1000000 in
theorem sameMethods_any (A1 A2 : Option Addr) (c1 c2 : Nat) (l1 l2 : List Mth) (w : World) (hn1 : l1.length ≤ 9223372036854775807) (okm : ∀ k, k < l1.length → MOk (l1.getD k default)) (h1 : RdMs w w.heap.size A1 l1) (h2 : RdMs w w.heap.size A2 l2) :
    Calls Tryd.prog 35 #[.slice A1 l1.length c1, .slice A2 l2.length c2] w fun e w' => e = .returned (.bool (decide (l1 = l2))) ∧ Below w.heap.size w w' := by
  by_cases hne : l1.length = l2.length
  · obtain ⟨n, hn⟩ : ∃ n, l1.length = n := ⟨_, rfl⟩
    have hn2 : l2.length = n := by omega
    rw [hn] at hn1
    rw [hn, hn2]
    have Hl1 := Lib.hid hn
    have Hl2 := Lib.hid hn2
    clear hn hn2 hne
    go_enter Tryd.func35, Tryd.ntmps35
    go_wp2
    go_loopw [5] (fun i wr => ∃ k : Nat, k ≤ n ∧ i = .int .i64 k ∧ Hid (upTo l1 l2 k) ∧ Below w.heap.size w wr) (fun i _ => n - (intOf i).toNat)
    case atStart => exact ⟨0, Nat.zero_le _, rfl, Lib.hid rfl, Below.refl _ _⟩
    case round =>
      obtain ⟨k, hk, rfl, Heq, hb⟩ := hrel
      have hz := hb.size
      by_cases hlt : k < n
      · obtain ⟨b1, o1, Ai, ci, rfl, hb1, x0, x1, x2, x3, hcx⟩ := mth_at (ms := l1) ((h1.below hb (Nat.le_refl _)).more hz) (by rw [Hl1.out]; exact hlt)
        obtain ⟨b2, o2, Aj, cj, rfl, hb2, y0, y1, y2, y3, hcy⟩ := mth_at (ms := l2) ((h2.below hb (Nat.le_refl _)).more hz) (by rw [Hl2.out]; exact hlt)
        have hok := okm k (by rw [Hl1.out]; exact hlt)
        have hyes := fun he => upTo_next (l1 := l1) (l2 := l2) (k := k) (d := default) (by rw [Hl1.out]; exact hlt) (by rw [Hl2.out]; exact hlt) Heq.out he
        have hno := fun he => upTo_not (l1 := l1) (l2 := l2) (k := k) (d := default) he
        generalize l1.getD k default = x at *
        generalize l2.getD k default = y at *
        have k0 : (0 : Int) ≤ k := by omega
        have k1 : (k : Int) < n := by omega
        have Hs := Lib.hid (fun W hW1 hW2 => sameMethod_any Ai Aj ci cj x y W hok hW1 hW2)
        cases hxy : decide (x = y) with
        | true =>
          have Hy := Lib.hid (hyes (of_decide_eq_true hxy))
          rw [hxy] at Hs
          clear hxy hyes hno
          go_wp2_with fail
          go_still_tail 8, (by kernel_rfl)
          change wpList _ _ _ _ _ wr.drew
          go_wp2_with fail
          refine (Hs.out _ hcx.drew hcy.drew).mono ?_
          rintro e w6 ⟨rfl, hb6⟩
          have hb7 := hb.drew.trans (hb6.mono hz)
          go_wp2
          go_roundw
          case rel => exact ⟨k + 1, by omega, by go_num, Hy, hb7⟩
          case measure => simp [intOf]; omega
        | false =>
          have Hy := Lib.hid (hno (of_decide_eq_false hxy))
          rw [hxy] at Hs
          clear hxy hyes hno
          go_wp2_with fail
          go_still_tail 8, (by kernel_rfl)
          change wpList _ _ _ _ _ wr.drew
          go_wp2_with fail
          refine (Hs.out _ hcx.drew hcy.drew).mono ?_
          rintro e w6 ⟨rfl, hb6⟩
          have hb7 := hb.drew.trans (hb6.mono hz)
          go_wp2
          go_ret
          exact ⟨ret_bool (decide_eq_false Hy.out).symm, hb7⟩
      · have e : k = n := by omega
        clear hlt
        go_wp2
        go_ret
        exact ⟨ret_bool (decide_eq_true (upTo_all (k := k) (by rw [Hl1.out, e]) (by rw [Hl2.out, e]) Heq.out)).symm, hb⟩
  · have Hn := Lib.hid (len_not hne)
    go_enter Tryd.func35, Tryd.ntmps35
    go_wp2
    all_goals
      go_ret
      exact ⟨ret_bool (decide_eq_false Hn.out).symm, Below.refl _ _⟩

set_option maxRecDepth 100000 in
set_option maxHeartbeats 1000000 in
theorem equalFunc_any (A1 A2 : Option Addr) (c1 c2 : Nat) (l1 l2 : List Mth) (w : World) (hn1 : l1.length ≤ 9223372036854775807) (okm : ∀ k, k < l1.length → MOk (l1.getD k default)) (h1 : RdMs w w.heap.size A1 l1) (h2 : RdMs w w.heap.size A2 l2) :
    Calls Tryd.prog 31 #[.slice A1 l1.length c1, .slice A2 l2.length c2, .func (.func 32) #[] #[]] w fun e w' => e = .returned (.bool (decide (l1 = l2))) ∧ Below w.heap.size w w' := by
  by_cases hne : l1.length = l2.length
  · obtain ⟨n, hn⟩ : ∃ n, l1.length = n := ⟨_, rfl⟩
    have hn2 : l2.length = n := by omega
    rw [hn] at hn1
    rw [hn, hn2]
    have Hl1 := Lib.hid hn
    have Hl2 := Lib.hid hn2
    clear hn hn2 hne
    go_enter Tryd.func31, Tryd.ntmps31
    go_wp2
    go_loopw [17] (fun i wr => ∃ k : Nat, k ≤ n ∧ i = .int .i64 k ∧ Hid (upTo l1 l2 k) ∧ Below w.heap.size w wr) (fun i _ => n - (intOf i).toNat)
    case atStart => exact ⟨0, Nat.zero_le _, rfl, Lib.hid rfl, Below.refl _ _⟩
    case round =>
      obtain ⟨k, hk, rfl, Heq, hb⟩ := hrel
      have hz := hb.size
      by_cases hlt : k < n
      · obtain ⟨b1, o1, Ai, ci, rfl, hb1, x0, x1, x2, x3, hcx⟩ := mth_at (ms := l1) ((h1.below hb (Nat.le_refl _)).more hz) (by rw [Hl1.out]; exact hlt)
        obtain ⟨b2, o2, Aj, cj, rfl, hb2, y0, y1, y2, y3, hcy⟩ := mth_at (ms := l2) ((h2.below hb (Nat.le_refl _)).more hz) (by rw [Hl2.out]; exact hlt)
        have hok := okm k (by rw [Hl1.out]; exact hlt)
        have hyes := fun he => upTo_next (l1 := l1) (l2 := l2) (k := k) (d := default) (by rw [Hl1.out]; exact hlt) (by rw [Hl2.out]; exact hlt) Heq.out he
        have hno := fun he => upTo_not (l1 := l1) (l2 := l2) (k := k) (d := default) he
        generalize l1.getD k default = x at *
        generalize l2.getD k default = y at *
        have k0 : (0 : Int) ≤ k := by omega
        have k1 : (k : Int) < n := by omega
        have Hs := Lib.hid (fun W hW1 hW2 => same1_any Ai Aj ci cj x y W hok hW1 hW2)
        cases hxy : decide (x = y) with
        | true =>
          have Hy := Lib.hid (hyes (of_decide_eq_true hxy))
          rw [hxy] at Hs
          clear hxy hyes hno
          have hq := (hb.alloc hz (.cells #[.string x.pa, .string x.lo, .string x.re, .slice Ai x.code.length ci] 43)).alloc (by simp; omega) (.cells #[.string y.pa, .string y.lo, .string y.re, .slice Aj y.code.length cj] 43)
          have hqq := ((Below.refl wr.heap.size wr).alloc (Nat.le_refl _) (.cells #[.string x.pa, .string x.lo, .string x.re, .slice Ai x.code.length ci] 43)).alloc (by simp) (.cells #[.string y.pa, .string y.lo, .string y.re, .slice Aj y.code.length cj] 43)
          go_wp2_with fail
          refine (Hs.out _ ((hcx.below hqq (Nat.le_refl _)).more hqq.size) ((hcy.below hqq (Nat.le_refl _)).more hqq.size)).mono ?_
          rintro e w6 ⟨rfl, hb6⟩
          have hb7 := hq.trans (hb6.mono hq.size)
          go_wp2
          go_roundw
          case rel => exact ⟨k + 1, by omega, by go_num, Hy, hb7⟩
          case measure => simp [intOf]; omega
        | false =>
          have Hy := Lib.hid (hno (of_decide_eq_false hxy))
          rw [hxy] at Hs
          clear hxy hyes hno
          have hq := (hb.alloc hz (.cells #[.string x.pa, .string x.lo, .string x.re, .slice Ai x.code.length ci] 43)).alloc (by simp; omega) (.cells #[.string y.pa, .string y.lo, .string y.re, .slice Aj y.code.length cj] 43)
          have hqq := ((Below.refl wr.heap.size wr).alloc (Nat.le_refl _) (.cells #[.string x.pa, .string x.lo, .string x.re, .slice Ai x.code.length ci] 43)).alloc (by simp) (.cells #[.string y.pa, .string y.lo, .string y.re, .slice Aj y.code.length cj] 43)
          go_wp2_with fail
          refine (Hs.out _ ((hcx.below hqq (Nat.le_refl _)).more hqq.size) ((hcy.below hqq (Nat.le_refl _)).more hqq.size)).mono ?_
          rintro e w6 ⟨rfl, hb6⟩
          have hb7 := hq.trans (hb6.mono hq.size)
          go_wp2
          go_ret
          exact ⟨ret_bool (decide_eq_false Hy.out).symm, hb7⟩
      · have e : k = n := by omega
        clear hlt
        go_wp2
        go_ret
        exact ⟨ret_bool (decide_eq_true (upTo_all (k := k) (by rw [Hl1.out, e]) (by rw [Hl2.out, e]) Heq.out)).symm, hb⟩
  · have Hn := Lib.hid (len_not hne)
    go_enter Tryd.func31, Tryd.ntmps31
    go_wp2
    all_goals
      go_ret
      exact ⟨ret_bool (decide_eq_false Hn.out).symm, Below.refl _ _⟩

def sameP (p q : Prg) : Bool := decide (p.classes = q.classes) && decide (p.methods = q.methods)
theorem sameP_self (p : Prg) : sameP p p = true := by simp [sameP]
set_option maxRecDepth 100000 in
set_option maxHeartbeats 1000000 in
theorem sameProgram_any (Ac Am Bc Bm : Option Addr) (cc cm dc dm : Nat) (p q : Prg) (w : World) (hp : POk p) (h1 : RdP w w.heap.size Ac Am p) (h2 : RdP w w.heap.size Bc Bm q) :
    Calls Tryd.prog 16 #[pv Ac cc Am cm p, pv Bc dc Bm dm q] w fun e w' => e = .returned (.bool (sameP p q)) ∧ Below w.heap.size w w' := by
  have H := Lib.hid (show sameP p q = (decide (p.classes = q.classes) && decide (p.methods = q.methods)) from rfl)
  have hs1 := fun W hW1 hW2 => sameClasses_any Ac Bc cc dc p.classes q.classes W hp.cl hW1 hW2
  have hs2 := fun W hW1 hW2 => sameMethods_any Am Bm cm dm p.methods q.methods W hp.ms hp.m hW1 hW2
  have Hs1 := Lib.hid hs1
  have Hs2 := Lib.hid hs2
  clear hs1 hs2
  have hw := ((Below.refl w.heap.size w).alloc (Nat.le_refl _) (.cells #[.slice Ac p.classes.length cc, .slice Am p.methods.length cm] 26)).alloc (by simp) (.cells #[.slice Bc q.classes.length dc, .slice Bm q.methods.length dm] 26)
  have b1 := (Blk.new w 26 #[.slice Ac p.classes.length cc, .slice Am p.methods.length cm]).alloc (.cells #[.slice Bc q.classes.length dc, .slice Bm q.methods.length dm] 26)
  have b2 := Blk.newAt (w := w.alloc (.cells #[.slice Ac p.classes.length cc, .slice Am p.methods.length cm] 26)) (g := w.heap.size + 1) (by simp) 26 #[.slice Bc q.classes.length dc, .slice Bm q.methods.length dm]
  have R1 := Lib.hid ((h1.cl.below hw (Nat.le_refl _)).more hw.size)
  have R2 := Lib.hid ((h2.cl.below hw (Nat.le_refl _)).more hw.size)
  go_enter Tryd.func16, Tryd.ntmps16
  go_wp2_with fail
  refine (Hs1.out _ R1.out R2.out).mono ?_
  rintro e w3 ⟨rfl, hb3⟩
  have d1 := b1.below hb3 b1.lt
  have d2 := b2.below hb3 b2.lt
  have x1 := d1.at1
  have y1 := d2.at1
  have hl1 := d1.lt
  have hl2 := d2.lt
  have hw3 := hw.trans (hb3.mono hw.size)
  have M1 := Lib.hid ((h1.ms.below hw3 (Nat.le_refl _)).more hw3.size)
  have M2 := Lib.hid ((h2.ms.below hw3 (Nat.le_refl _)).more hw3.size)
  clear R1 R2 b1 b2 hb3 h1 h2
  generalize decide (p.classes = q.classes) = q1 at *
  go_wp2_with fail
  refine (Hs2.out _ M1.out M2.out).mono ?_
  rintro e w4 ⟨rfl, hb4⟩
  have hw4 := hw3.trans (hb4.mono hw3.size)
  generalize decide (p.methods = q.methods) = q2 at *
  cases q1 <;> cases q2
  all_goals
    go_wp2
    go_ret
    exact ⟨ret_bool (by rw [H.out]; rfl), hw4⟩

set_option maxRecDepth 100000 in
set_option maxHeartbeats 1000000 in
theorem progSame_any (Ac Am Bc Bm : Option Addr) (cc cm dc dm : Nat) (p q : Prg) (w : World) (hp : POk p) (h1 : RdP w w.heap.size Ac Am p) (h2 : RdP w w.heap.size Bc Bm q) :
    Calls Tryd.prog 15 #[pv Ac cc Am cm p, pv Bc dc Bm dm q] w fun e w' => e = .returned (.bool (sameP p q)) ∧ Below w.heap.size w w' := by
  have H := Lib.hid (show sameP p q = (decide (p.classes = q.classes) && decide (p.methods = q.methods)) from rfl)
  have hs1 := fun W hW1 hW2 => equalC_any Ac Bc cc dc p.classes q.classes W hp.cl hW1 hW2
  have hs2 := fun W hW1 hW2 => equalFunc_any Am Bm cm dm p.methods q.methods W hp.ms hp.m hW1 hW2
  have Hs1 := Lib.hid hs1
  have Hs2 := Lib.hid hs2
  clear hs1 hs2
  have hw := ((Below.refl w.heap.size w).alloc (Nat.le_refl _) (.cells #[.slice Ac p.classes.length cc, .slice Am p.methods.length cm] 26)).alloc (by simp) (.cells #[.slice Bc q.classes.length dc, .slice Bm q.methods.length dm] 26)
  have b1 := (Blk.new w 26 #[.slice Ac p.classes.length cc, .slice Am p.methods.length cm]).alloc (.cells #[.slice Bc q.classes.length dc, .slice Bm q.methods.length dm] 26)
  have b2 := Blk.newAt (w := w.alloc (.cells #[.slice Ac p.classes.length cc, .slice Am p.methods.length cm] 26)) (g := w.heap.size + 1) (by simp) 26 #[.slice Bc q.classes.length dc, .slice Bm q.methods.length dm]
  have R1 := Lib.hid ((h1.cl.below hw (Nat.le_refl _)).more hw.size)
  have R2 := Lib.hid ((h2.cl.below hw (Nat.le_refl _)).more hw.size)
  go_enter Tryd.func15, Tryd.ntmps15
  go_wp2_with fail
  refine (Hs1.out _ R1.out R2.out).mono ?_
  rintro e w3 ⟨rfl, hb3⟩
  have d1 := b1.below hb3 b1.lt
  have d2 := b2.below hb3 b2.lt
  have x1 := d1.at1
  have y1 := d2.at1
  have hl1 := d1.lt
  have hl2 := d2.lt
  have hw3 := hw.trans (hb3.mono hw.size)
  have M1 := Lib.hid ((h1.ms.below hw3 (Nat.le_refl _)).more hw3.size)
  have M2 := Lib.hid ((h2.ms.below hw3 (Nat.le_refl _)).more hw3.size)
  clear R1 R2 b1 b2 hb3 h1 h2
  generalize decide (p.classes = q.classes) = q1 at *
  cases q1 with
  | false =>
    go_wp2
    go_ret
    exact ⟨ret_bool (by rw [H.out]; rfl), hw3⟩
  | true =>
    go_wp2_with fail
    refine (Hs2.out _ M1.out M2.out).mono ?_
    rintro e w4 ⟨rfl, hb4⟩
    have hw4 := hw3.trans (hb4.mono hw3.size)
    generalize decide (p.methods = q.methods) = q2 at *
    cases q2
    all_goals
      go_wp2
      go_ret
      exact ⟨ret_bool (by rw [H.out]; rfl), hw4⟩
end Go.Proofs.YtcmlfaikdegbfaaDoor
