/-
 PgIns.
-/
import Derived.Deep.RegionHeld3
import Derived.Deep.CutBlock
import Derived.Test.YtjjmpfmhggcjiaaGreatDoorJShape
set_option linter.unusedSimpArgs false
set_option linter.unusedVariables false
namespace Go.Proofs.YtjjmpfmhggcjiaaGreatDoor
open Go.RowKit Go.Maps
theorem keep_cell {W w' : World} {b o g : Nat} {v : Value} (hb : Below W.heap.size W w') (hg : g < W.heap.size) (hbg : b ≤ g) (h : W.cell? ⟨b, o, none⟩ = some v) : w'.cell? ⟨b, o, none⟩ = some v :=
 (hb.cell (p := ⟨b, o, none⟩) (Nat.lt_of_le_of_lt hbg hg)).trans h
/-- Is what A and B name there? -/
def thereB (cl : List ByteArray) (nm locals : Nat) (x : Ins) : Bool :=
 if x.op = 3 ∨ x.op = 4 then inB x.a locals
 else if x.op = 24 ∨ x.op = 27 then inB x.a cl.length
 else if x.op = 25 ∨ x.op = 26 then inB x.a cl.length && inB x.b (cl.getD x.a.toNat ⟨#[]⟩).size
 else if x.op = 28 ∨ x.op = 29 ∨ x.op = 30 then inB x.a 2
 else if x.op = 32 then decide (0 < x.a) && inB x.a nm
 else true
def tgtB (codes : Nat) (x : Ins) : Bool := decide (x.op = 22 ∨ x.op = 23) && !inB x.a codes
def wantB (x : Ins) : Bool := !usesA x.op && decide (x.a ≠ 0) || (!usesB x.op && decide (x.b ≠ 0) || !decide (x.op = 1) && decide (x.n ≠ 0))
theorem Blk.drewN {w : World} {g : Nat} {t : TypeId} {cs : Array Value} (h : Blk w g t cs) (k : Nat) : Blk (w.drewN k) g t cs := h
theorem in_same (i : Int) (n : Nat) (w : World) : Calls Tryz.prog 116 #[.int .i64 i, .int .i64 n] w fun e w' => e = .returned (.bool (inB i n)) ∧ w' = w := (in_any i n w).mono fun _ _ ⟨h1, h2⟩ => ⟨h1, h2.symm⟩
theorem in_eq {i : Int} {n : Nat} {b : Bool} (h : inB i n = b) (w : World) : Calls Tryz.prog 116 #[.int .i64 i, .int .i64 n] w fun e w' => e = .returned (.bool b) ∧ w' = w := by subst h; exact in_same i n w
theorem in_true {i : Int} {n : Nat} (h : inB i n = true) : 0 ≤ i ∧ i < n := by simpa [inB] using h
theorem insBad_eq (cl : List ByteArray) (nm locals codes : Nat) (x : Ins) (h1 : 1 ≤ x.op) (h35 : x.op ≤ 35) :
 insBad cl nm locals codes x = if tgtB codes x then 4 else if !thereB cl nm locals x || wantB x then 3 else 0 := by
 obtain ⟨op, xa, xb, xn⟩ := x
 simp only at h1 h35
 have hc : op = 3 ∨ op = 4 ∨ op = 22 ∨ op = 23 ∨ op = 24 ∨ op = 25 ∨ op = 26 ∨ op = 27 ∨ op = 28 ∨ op = 29 ∨ op = 30 ∨ op = 32 ∨ (op ≠ 3 ∧ op ≠ 4 ∧ op ≠ 22 ∧ op ≠ 23 ∧ op ≠ 24 ∧ op ≠ 25 ∧ op ≠ 26 ∧ op ≠ 27 ∧ op ≠ 28 ∧ op ≠ 29 ∧ op ≠ 30 ∧ op ≠ 32) := by omega
 unfold insBad tgtB thereB wantB
 rcases hc with rfl | rfl | rfl | rfl | rfl | rfl | rfl | rfl | rfl | rfl | rfl | rfl | ⟨n1, n2, n3, n4, n5, n6, n7, n8, n9, n10, n11, n12⟩
 all_goals simp [usesA, usesB, opsA, *]
 all_goals (repeat' split) <;> simp_all <;> omega
set_option maxRecDepth 100000 in
set_option maxHeartbeats 8000000 in
theorem instr_in (a : Nat → Addr) (B : Nat) (w : World) (h : Sent w B all14 a) (hB : B ≤ w.heap.size) (Ac Am : Option Addr) (cc cm : Nat) (p : Prg) (hr : Rd w w.heap.size 1 Ac p.classes.length (p.classes.map Value.string)) (hp : POk p)
 (A : Option Addr) (c : Nat) (m : Mth) (hk : m.pa.size + m.lo.size ≤ 1000) (_ : m.code.length ≤ 9223372036854775807) (x : Ins) (h1 : 1 ≤ x.op) (h35 : x.op ≤ 35) :
 Calls Tryz.prog 67 #[pv Ac cc Am cm p, mv A c m, iv x] w fun e w' => e = .returned (errV a (insBad p.classes p.methods.length (m.pa.size + m.lo.size) m.code.length x)) ∧ Below w.heap.size w w' := by
 have heq := insBad_eq p.classes p.methods.length (m.pa.size + m.lo.size) m.code.length x h1 h35
 obtain ⟨op, xa, xb, xn⟩ := x
 simp only at h1 h35
 have Heq := Lib.hid heq
 clear heq
 have hcl := hp.cl
 have hms := hp.ms
 go_enter Tryz.func67, Tryz.ntmps67
 go_upto_block 0 with (fail)
 have b1 := (((Blk.new w 25 #[.slice Ac p.classes.length cc, .slice Am p.methods.length cm]).alloc (.cells #[.string m.pa, .string m.lo, .string m.re, .slice A m.code.length c] 90)).alloc (.cells #[.int .i64 op, .int .i64 xa, .int .i64 xb, .int .i64 xn] 118))
 have b2 := ((Blk.newAt (w := w.alloc (.cells #[.slice Ac p.classes.length cc, .slice Am p.methods.length cm] 25)) (g := w.heap.size + 1) (by simp) 90 #[.string m.pa, .string m.lo, .string m.re, .slice A m.code.length c]).alloc (.cells #[.int .i64 op, .int .i64 xa, .int .i64 xb, .int .i64 xn] 118))
 have b3 := (Blk.newAt (w := (w.alloc (.cells #[.slice Ac p.classes.length cc, .slice Am p.methods.length cm] 25)).alloc (.cells #[.string m.pa, .string m.lo, .string m.re, .slice A m.code.length c] 90)) (g := w.heap.size + 1 + 1) (by simp) 118 #[.int .i64 op, .int .i64 xa, .int .i64 xb, .int .i64 xn])
 have hw : Below w.heap.size w (((w.alloc (.cells #[.slice Ac p.classes.length cc, .slice Am p.methods.length cm] 25)).alloc (.cells #[.string m.pa, .string m.lo, .string m.re, .slice A m.code.length c] 90)).alloc (.cells #[.int .i64 op, .int .i64 xa, .int .i64 xb, .int .i64 xn] 118)) := (((Below.refl _ _).alloc (Nat.le_refl _) _).alloc (by simp) _).alloc (by simp; omega) _
 generalize ((w.alloc (.cells #[.slice Ac p.classes.length cc, .slice Am p.methods.length cm] 25)).alloc (.cells #[.string m.pa, .string m.lo, .string m.re, .slice A m.code.length c] 90)).alloc (.cells #[.int .i64 op, .int .i64 xa, .int .i64 xb, .int .i64 xn] 118) = w3 at *
 have hr3 := hr.below hw (Nat.le_refl _)
 have hz3 : w.heap.size + 1 + 1 < w3.heap.size := b3.lt
 have p0 := b1.at0
 have p1 := b1.at1
 have m0 := b2.at0
 have m1 := b2.at1
 have m2 := b2.at2
 have m3 := b2.at3
 have i0 := b3.at0
 have i1 := b3.at1
 have i2 := b3.at2
 have i3 := b3.at3
 go_cut [7] from 22 to 92 (fun v wx => v = .bool (thereB p.classes p.methods.length (m.pa.size + m.lo.size) ⟨op, xa, xb, xn⟩) ∧ tgtB m.code.length ⟨op, xa, xb, xn⟩ = false ∧ Below w.heap.size w wx ∧ Blk wx (w.heap.size + 1 + 1) 118 #[.int .i64 op, .int .i64 xa, .int .i64 xb, .int .i64 xn])
 case first =>
  have hc : op = 3 ∨ op = 4 ∨ op = 22 ∨ op = 23 ∨ op = 24 ∨ op = 25 ∨ op = 26 ∨ op = 27 ∨ op = 28 ∨ op = 29 ∨ op = 30 ∨ op = 32 ∨ (op ≠ 3 ∧ op ≠ 4 ∧ op ≠ 22 ∧ op ≠ 23 ∧ op ≠ 24 ∧ op ≠ 25 ∧ op ≠ 26 ∧ op ≠ 27 ∧ op ≠ 28 ∧ op ≠ 29 ∧ op ≠ 30 ∧ op ≠ 32) := by omega
  rcases hc with e | e | e | e | e | e | e | e | e | e | e | e | ⟨n1, n2, n3, n4, n5, n6, n7, n8, n9, n10, n11, n12⟩
  · have ht := Lib.hid (show thereB p.classes p.methods.length (m.pa.size + m.lo.size) ⟨op, xa, xb, xn⟩ = inB xa (m.pa.size + m.lo.size) by unfold thereB; simp [e])
    have hg : tgtB m.code.length ⟨op, xa, xb, xn⟩ = false := by unfold tgtB; simp [e]
    have f3 : (op == 3) = true := by simp; omega
    have He := Lib.hid e
    clear e
    go_wp2
    go_region_held3 (fun w' => w'.cell? ⟨w.heap.size + 1 + 1, 1, none⟩ = some (.int .i64 xa) ∧ w'.cell? ⟨w.heap.size + 1, 0, none⟩ = some (.string m.pa) ∧ w'.cell? ⟨w.heap.size + 1, 1, none⟩ = some (.string m.lo) ∧ w'.cell? ⟨w.heap.size + 1, 2, none⟩ = some (.string m.re) ∧ w'.cell? ⟨w.heap.size + 1, 3, none⟩ = some (.slice A m.code.length c) ∧ w.heap.size + 1 + 1 < w'.heap.size ∧ Hid (Below w.heap.size w w'))
     ((go_split_ands; refine ⟨?_, ?_, ?_, ?_, ?_, ?_, ?_⟩ <;> first | assumption | exact Lib.hid hw.drew | exact keep_cell hb (hz3 : w.heap.size + 1 + 1 < w3.drew.heap.size) (by omega) (by assumption) | (have hbs := hb.size; omega) | (have hq := hb.mono (B' := w.heap.size) (by omega); exact Lib.hid (Below.trans (Hid.out (by assumption)) hq))))
     (first | (go_at_call 117; refine (kinds_any _ _ _ _ hk).mono ?_; rintro e w' ⟨rfl, hb⟩) | (go_at_call 116; refine (in_any _ _ _).mono ?_; rintro e w' ⟨rfl, rfl⟩))
    go_wp2
    go_meet
    exact ⟨by rw [ht.out], hg, hw.drew.trans (hb.mono (Nat.le_of_lt (Nat.lt_trans (by omega) hz3))), b3.drew.below hb hz3⟩
  · have ht := Lib.hid (show thereB p.classes p.methods.length (m.pa.size + m.lo.size) ⟨op, xa, xb, xn⟩ = inB xa (m.pa.size + m.lo.size) by unfold thereB; simp [e])
    have hg : tgtB m.code.length ⟨op, xa, xb, xn⟩ = false := by unfold tgtB; simp [e]
    have f3 : (op == 3) = false := by simp; omega
    have f4 : (op == 4) = true := by simp; omega
    have He := Lib.hid e
    clear e
    go_wp2
    go_region_held3 (fun w' => w'.cell? ⟨w.heap.size + 1 + 1, 1, none⟩ = some (.int .i64 xa) ∧ w'.cell? ⟨w.heap.size + 1, 0, none⟩ = some (.string m.pa) ∧ w'.cell? ⟨w.heap.size + 1, 1, none⟩ = some (.string m.lo) ∧ w'.cell? ⟨w.heap.size + 1, 2, none⟩ = some (.string m.re) ∧ w'.cell? ⟨w.heap.size + 1, 3, none⟩ = some (.slice A m.code.length c) ∧ w.heap.size + 1 + 1 < w'.heap.size ∧ Hid (Below w.heap.size w w'))
     ((go_split_ands; refine ⟨?_, ?_, ?_, ?_, ?_, ?_, ?_⟩ <;> first | assumption | exact Lib.hid hw.drew | exact keep_cell hb (hz3 : w.heap.size + 1 + 1 < w3.drew.heap.size) (by omega) (by assumption) | (have hbs := hb.size; omega) | (have hq := hb.mono (B' := w.heap.size) (by omega); exact Lib.hid (Below.trans (Hid.out (by assumption)) hq))))
     (first | (go_at_call 117; refine (kinds_any _ _ _ _ hk).mono ?_; rintro e w' ⟨rfl, hb⟩) | (go_at_call 116; refine (in_any _ _ _).mono ?_; rintro e w' ⟨rfl, rfl⟩))
    go_wp2
    go_meet
    exact ⟨by rw [ht.out], hg, hw.drew.trans (hb.mono (Nat.le_of_lt (Nat.lt_trans (by omega) hz3))), b3.drew.below hb hz3⟩
  · have ht := Lib.hid (show thereB p.classes p.methods.length (m.pa.size + m.lo.size) ⟨op, xa, xb, xn⟩ = true by unfold thereB; simp [e])
    have hg := Lib.hid (show tgtB m.code.length ⟨op, xa, xb, xn⟩ = !inB xa m.code.length by unfold tgtB; simp [e])
    have f3 : (op == 3) = false := by simp; omega
    have f4 : (op == 4) = false := by simp; omega
    have f24 : (op == 24) = false := by simp; omega
    have f27 : (op == 27) = false := by simp; omega
    have f25 : (op == 25) = false := by simp; omega
    have f26 : (op == 26) = false := by simp; omega
    have f28 : (op == 28) = false := by simp; omega
    have f29 : (op == 29) = false := by simp; omega
    have f30 : (op == 30) = false := by simp; omega
    have f32 : (op == 32) = false := by simp; omega
    have f22 : (op == 22) = true := by simp; omega
    have He := Lib.hid e
    clear e
    cases hi : inB xa m.code.length with
    | true =>
      rw [hi] at hg
      go_wp2_with (go_at_call 116; refine (in_any _ _ _).mono ?_; rintro e w' ⟨rfl, rfl⟩)
      go_meet
      exact ⟨by rw [ht.out], hg.out, hw, b3⟩
    | false =>
      rw [hi] at hg
      have c4 := ((h.below hw hB).cell 4 (by decide)).2
      simp only [gOf, sent] at c4
      go_wp2_with (go_at_call 116; refine (in_any _ _ _).mono ?_; rintro e w' ⟨rfl, rfl⟩)
      go_ret
      exact ⟨by rw [Heq.out, hg.out]; rfl, hw⟩
  · have ht := Lib.hid (show thereB p.classes p.methods.length (m.pa.size + m.lo.size) ⟨op, xa, xb, xn⟩ = true by unfold thereB; simp [e])
    have hg := Lib.hid (show tgtB m.code.length ⟨op, xa, xb, xn⟩ = !inB xa m.code.length by unfold tgtB; simp [e])
    have f3 : (op == 3) = false := by simp; omega
    have f4 : (op == 4) = false := by simp; omega
    have f24 : (op == 24) = false := by simp; omega
    have f27 : (op == 27) = false := by simp; omega
    have f25 : (op == 25) = false := by simp; omega
    have f26 : (op == 26) = false := by simp; omega
    have f28 : (op == 28) = false := by simp; omega
    have f29 : (op == 29) = false := by simp; omega
    have f30 : (op == 30) = false := by simp; omega
    have f32 : (op == 32) = false := by simp; omega
    have f22 : (op == 22) = false := by simp; omega
    have f23 : (op == 23) = true := by simp; omega
    have He := Lib.hid e
    clear e
    cases hi : inB xa m.code.length with
    | true =>
      rw [hi] at hg
      go_wp2_with (go_at_call 116; refine (in_any _ _ _).mono ?_; rintro e w' ⟨rfl, rfl⟩)
      go_meet
      exact ⟨by rw [ht.out], hg.out, hw, b3⟩
    | false =>
      rw [hi] at hg
      have c4 := ((h.below hw hB).cell 4 (by decide)).2
      simp only [gOf, sent] at c4
      go_wp2_with (go_at_call 116; refine (in_any _ _ _).mono ?_; rintro e w' ⟨rfl, rfl⟩)
      go_ret
      exact ⟨by rw [Heq.out, hg.out]; rfl, hw⟩
  · have ht := Lib.hid (show thereB p.classes p.methods.length (m.pa.size + m.lo.size) ⟨op, xa, xb, xn⟩ = inB xa p.classes.length by unfold thereB; simp [e])
    have hg : tgtB m.code.length ⟨op, xa, xb, xn⟩ = false := by unfold tgtB; simp [e]
    have f3 : (op == 3) = false := by simp; omega
    have f4 : (op == 4) = false := by simp; omega
    have f24 : (op == 24) = true := by simp; omega
    have He := Lib.hid e
    clear e
    go_wp2_with (go_at_call 116; refine (in_any _ _ _).mono ?_; rintro e w' ⟨rfl, rfl⟩)
    go_meet
    exact ⟨by rw [ht.out], hg, hw, b3⟩
  · have ht := Lib.hid (show thereB p.classes p.methods.length (m.pa.size + m.lo.size) ⟨op, xa, xb, xn⟩ = (inB xa p.classes.length && inB xb (p.classes.getD xa.toNat ⟨#[]⟩).size) by unfold thereB; simp [e])
    have hg : tgtB m.code.length ⟨op, xa, xb, xn⟩ = false := by unfold tgtB; simp [e]
    have f3 : (op == 3) = false := by simp; omega
    have f4 : (op == 4) = false := by simp; omega
    have f24 : (op == 24) = false := by simp; omega
    have f27 : (op == 27) = false := by simp; omega
    have f25 : (op == 25) = true := by simp; omega
    have He := Lib.hid e
    clear e
    cases hi : inB xa p.classes.length with
    | false =>
      rw [hi] at ht
      have Hi := Lib.hid hi
      clear hi
      go_wp2
      go_quiet ((go_at_call 116; exact Calls.quiet_of_same (in_eq Hi.out _)))
      go_wp2
      go_meet
      exact ⟨by rw [ht.out]; rfl, hg, below_drewN hw _, b3.drewN _⟩
    | true =>
      rw [hi] at ht
      have hx := (in_true hi)
      obtain ⟨k, rfl⟩ : ∃ k : Nat, xa = k := ⟨xa.toNat, by omega⟩
      have Hi := Lib.hid hi
      clear hi
      have hkl : k < p.classes.length := by omega
      obtain ⟨b, off, rfl, hbl, c1⟩ := str_at hr3 hkl
      have hfs := hp.fs k hkl
      simp only [Int.toNat_natCast] at ht
      have k0 : (0 : Int) ≤ k := by omega
      have k1 : (k : Int) < p.classes.length := by omega
      go_wp2
      go_quiet ((first | (go_at_call 116; with_reducible exact Calls.quiet_of_same (in_eq Hi.out _)) | (go_at_call 116; with_reducible exact Calls.quiet_of_same (in_same xb _ _))))
      go_wp2
      go_meet
      exact ⟨by rw [ht.out]; simp [hkl], hg, below_drewN hw _, b3.drewN _⟩
  · have ht := Lib.hid (show thereB p.classes p.methods.length (m.pa.size + m.lo.size) ⟨op, xa, xb, xn⟩ = (inB xa p.classes.length && inB xb (p.classes.getD xa.toNat ⟨#[]⟩).size) by unfold thereB; simp [e])
    have hg : tgtB m.code.length ⟨op, xa, xb, xn⟩ = false := by unfold tgtB; simp [e]
    have f3 : (op == 3) = false := by simp; omega
    have f4 : (op == 4) = false := by simp; omega
    have f24 : (op == 24) = false := by simp; omega
    have f27 : (op == 27) = false := by simp; omega
    have f25 : (op == 25) = false := by simp; omega
    have f26 : (op == 26) = true := by simp; omega
    have He := Lib.hid e
    clear e
    cases hi : inB xa p.classes.length with
    | false =>
      rw [hi] at ht
      have Hi := Lib.hid hi
      clear hi
      go_wp2
      go_quiet ((go_at_call 116; exact Calls.quiet_of_same (in_eq Hi.out _)))
      go_wp2
      go_meet
      exact ⟨by rw [ht.out]; rfl, hg, below_drewN hw _, b3.drewN _⟩
    | true =>
      rw [hi] at ht
      have hx := (in_true hi)
      obtain ⟨k, rfl⟩ : ∃ k : Nat, xa = k := ⟨xa.toNat, by omega⟩
      have Hi := Lib.hid hi
      clear hi
      have hkl : k < p.classes.length := by omega
      obtain ⟨b, off, rfl, hbl, c1⟩ := str_at hr3 hkl
      have hfs := hp.fs k hkl
      simp only [Int.toNat_natCast] at ht
      have k0 : (0 : Int) ≤ k := by omega
      have k1 : (k : Int) < p.classes.length := by omega
      go_wp2
      go_quiet ((first | (go_at_call 116; with_reducible exact Calls.quiet_of_same (in_eq Hi.out _)) | (go_at_call 116; with_reducible exact Calls.quiet_of_same (in_same xb _ _))))
      go_wp2
      go_meet
      exact ⟨by rw [ht.out]; simp [hkl], hg, below_drewN hw _, b3.drewN _⟩
  · have ht := Lib.hid (show thereB p.classes p.methods.length (m.pa.size + m.lo.size) ⟨op, xa, xb, xn⟩ = inB xa p.classes.length by unfold thereB; simp [e])
    have hg : tgtB m.code.length ⟨op, xa, xb, xn⟩ = false := by unfold tgtB; simp [e]
    have f3 : (op == 3) = false := by simp; omega
    have f4 : (op == 4) = false := by simp; omega
    have f24 : (op == 24) = false := by simp; omega
    have f27 : (op == 27) = true := by simp; omega
    have He := Lib.hid e
    clear e
    go_wp2_with (go_at_call 116; refine (in_any _ _ _).mono ?_; rintro e w' ⟨rfl, rfl⟩)
    go_meet
    exact ⟨by rw [ht.out], hg, hw, b3⟩
  · have ht := Lib.hid (show thereB p.classes p.methods.length (m.pa.size + m.lo.size) ⟨op, xa, xb, xn⟩ = inB xa 2 by unfold thereB; simp [e])
    have hg : tgtB m.code.length ⟨op, xa, xb, xn⟩ = false := by unfold tgtB; simp [e]
    have f3 : (op == 3) = false := by simp; omega
    have f4 : (op == 4) = false := by simp; omega
    have f24 : (op == 24) = false := by simp; omega
    have f27 : (op == 27) = false := by simp; omega
    have f25 : (op == 25) = false := by simp; omega
    have f26 : (op == 26) = false := by simp; omega
    have f28 : (op == 28) = true := by simp; omega
    have He := Lib.hid e
    clear e
    go_wp2_with (go_at_call 116; refine (in_any _ 2 _).mono ?_; rintro e w' ⟨rfl, rfl⟩)
    go_meet
    exact ⟨by rw [ht.out], hg, hw, b3⟩
  · have ht := Lib.hid (show thereB p.classes p.methods.length (m.pa.size + m.lo.size) ⟨op, xa, xb, xn⟩ = inB xa 2 by unfold thereB; simp [e])
    have hg : tgtB m.code.length ⟨op, xa, xb, xn⟩ = false := by unfold tgtB; simp [e]
    have f3 : (op == 3) = false := by simp; omega
    have f4 : (op == 4) = false := by simp; omega
    have f24 : (op == 24) = false := by simp; omega
    have f27 : (op == 27) = false := by simp; omega
    have f25 : (op == 25) = false := by simp; omega
    have f26 : (op == 26) = false := by simp; omega
    have f28 : (op == 28) = false := by simp; omega
    have f29 : (op == 29) = true := by simp; omega
    have He := Lib.hid e
    clear e
    go_wp2_with (go_at_call 116; refine (in_any _ 2 _).mono ?_; rintro e w' ⟨rfl, rfl⟩)
    go_meet
    exact ⟨by rw [ht.out], hg, hw, b3⟩
  · have ht := Lib.hid (show thereB p.classes p.methods.length (m.pa.size + m.lo.size) ⟨op, xa, xb, xn⟩ = inB xa 2 by unfold thereB; simp [e])
    have hg : tgtB m.code.length ⟨op, xa, xb, xn⟩ = false := by unfold tgtB; simp [e]
    have f3 : (op == 3) = false := by simp; omega
    have f4 : (op == 4) = false := by simp; omega
    have f24 : (op == 24) = false := by simp; omega
    have f27 : (op == 27) = false := by simp; omega
    have f25 : (op == 25) = false := by simp; omega
    have f26 : (op == 26) = false := by simp; omega
    have f28 : (op == 28) = false := by simp; omega
    have f29 : (op == 29) = false := by simp; omega
    have f30 : (op == 30) = true := by simp; omega
    have He := Lib.hid e
    clear e
    go_wp2_with (go_at_call 116; refine (in_any _ 2 _).mono ?_; rintro e w' ⟨rfl, rfl⟩)
    go_meet
    exact ⟨by rw [ht.out], hg, hw, b3⟩
  · have ht := Lib.hid (show thereB p.classes p.methods.length (m.pa.size + m.lo.size) ⟨op, xa, xb, xn⟩ = (decide (0 < xa) && inB xa p.methods.length) by unfold thereB; simp [e])
    have hg : tgtB m.code.length ⟨op, xa, xb, xn⟩ = false := by unfold tgtB; simp [e]
    have f3 : (op == 3) = false := by simp; omega
    have f4 : (op == 4) = false := by simp; omega
    have f24 : (op == 24) = false := by simp; omega
    have f27 : (op == 27) = false := by simp; omega
    have f25 : (op == 25) = false := by simp; omega
    have f26 : (op == 26) = false := by simp; omega
    have f28 : (op == 28) = false := by simp; omega
    have f29 : (op == 29) = false := by simp; omega
    have f30 : (op == 30) = false := by simp; omega
    have f32 : (op == 32) = true := by simp; omega
    have He := Lib.hid e
    clear e
    by_cases hx : 0 < xa
    · go_wp2_with (go_at_call 116; refine (in_any _ _ _).mono ?_; rintro e w' ⟨rfl, rfl⟩)
      go_meet
      exact ⟨by rw [ht.out]; simp [hx], hg, hw, b3⟩
    · go_wp2_with (go_at_call 116; refine (in_any _ _ _).mono ?_; rintro e w' ⟨rfl, rfl⟩)
      go_meet
      exact ⟨by rw [ht.out, decide_eq_false (by omega)]; rfl, hg, hw, b3⟩
  · have ht := Lib.hid (show thereB p.classes p.methods.length (m.pa.size + m.lo.size) ⟨op, xa, xb, xn⟩ = true by unfold thereB; simp [*])
    have hg : tgtB m.code.length ⟨op, xa, xb, xn⟩ = false := by unfold tgtB; simp [*]
    have f3 : (op == 3) = false := by simp; omega
    have f4 : (op == 4) = false := by simp; omega
    have f24 : (op == 24) = false := by simp; omega
    have f27 : (op == 27) = false := by simp; omega
    have f25 : (op == 25) = false := by simp; omega
    have f26 : (op == 26) = false := by simp; omega
    have f28 : (op == 28) = false := by simp; omega
    have f29 : (op == 29) = false := by simp; omega
    have f30 : (op == 30) = false := by simp; omega
    have f32 : (op == 32) = false := by simp; omega
    have f22 : (op == 22) = false := by simp; omega
    have f23 : (op == 23) = false := by simp; omega
    clear n1 n2 n3 n4 n5 n6 n7 n8 n9 n10 n11 n12
    go_wp2
    go_meet
    exact ⟨by rw [ht.out], hg, hw, b3⟩
 case rest =>
  obtain ⟨rfl, hg, hbx, hbi⟩ := hcut
  generalize thereB p.classes p.methods.length (m.pa.size + m.lo.size) ⟨op, xa, xb, xn⟩ = th at *
  rw [hg] at Heq
  have hwb : wantB ⟨op, xa, xb, xn⟩ = (!usesA op && decide (xa ≠ 0) || (!usesB op && decide (xb ≠ 0) || !decide (op = 1) && decide (xn ≠ 0))) := rfl
  generalize wantB ⟨op, xa, xb, xn⟩ = wb at *
  have Hwb := Lib.hid hwb
  clear hwb p0 p1 m0 m1 m2 m3 i0 i1 i2 i3 b1 b2 b3 hr3 hg hr
  generalize iv ⟨op, xa, xb, xn⟩ = ivv
  have i0 := hbi.at0
  have hzi := hbi.lt
  go_wp2_with fail
  refine (uses_any op _).mono ?_
  rintro e w5 ⟨rfl, hb5⟩
  have hb6 := hbi.below hb5 hzi
  have hbw := hbx.trans (hb5.mono hbx.size)
  generalize usesA op = ua at *
  generalize usesB op = ub at *
  generalize decide (op = 1) = uo at *
  clear i0 hbi hb5 hzi
  have i1 := hb6.at1
  have i2 := hb6.at2
  have i3 := hb6.at3
  go_upto_region 25 with (fail)
  go_cut [128] from 100 to 128 (fun v wx => v = .bool (!th || wb) ∧ wx = w5)
  case first =>
   cases th with
   | false =>
     go_wp2
     go_meet
     exact ⟨rfl, rfl⟩
   | true =>
     cases ua <;> cases ub <;> cases uo
     all_goals
      go_wp2
      all_goals
       go_meet
       refine ⟨congrArg Value.bool ?_, rfl⟩
       rw [Hwb.out, Bool.eq_iff_iff]
       simp [*]
  case rest =>
   obtain ⟨rfl, hwx⟩ := hcut
   subst hwx
   cases hf : (!th || wb) with
   | true =>
     rw [hf] at Heq
     have c3 := ((h.below hbw hB).cell 3 (by decide)).2
     simp only [gOf, sent] at c3
     go_wp2
     go_ret
     exact ⟨by rw [Heq.out]; rfl, hbw⟩
   | false =>
     rw [hf] at Heq
     go_wp2
     go_ret
     exact ⟨by rw [Heq.out]; rfl, hbw⟩
end Go.Proofs.YtjjmpfmhggcjiaaGreatDoor
