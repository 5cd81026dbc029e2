/-
 PgRefIns.
-/
import Derived.Test.YtjjmpfmhggcjiaaGreatDoorJPgRef
set_option linter.unusedSimpArgs false
set_option linter.unusedVariables false
namespace Go.Proofs.YtjjmpfmhggcjiaaGreatDoor
open Go.RowKit Go.Maps
theorem in_not {i : Int} {n : Nat} (h : inB i n = false) : i < 0 ∨ (n : Int) ≤ i := by
 have : ¬ (0 ≤ i ∧ i < n) := fun hh => by
  rw [show inB i n = true by simp [inB, hh]] at h
  cases h
 omega
set_option maxRecDepth 100000 in
set_option maxHeartbeats 8000000 in
theorem rinstr_nl (Ac Am : Option Addr) (cc cm : Nat) (p : Prg) (w : World) (hr : Rd w w.heap.size 1 Ac p.classes.length (p.classes.map Value.string)) (hp : POk p)
 (A : Option Addr) (c : Nat) (m : Mth) (nl : Nat) (hnl : m.pa.size + m.lo.size = nl) (hnl1 : nl ≤ 1000) (_ : m.code.length ≤ 9223372036854775807) (x : Ins) :
 Calls Tryz.prog 111 #[pv Ac cc Am cm p, mv A c m, iv x] w fun e w' => e = .returned (.int .i64 (codeOf (insBad p.classes p.methods.length nl m.code.length x))) ∧ Below w.heap.size w w' := by
 have hout : x.op < 1 ∨ 35 < x.op → insBad p.classes p.methods.length nl m.code.length x = 2 := fun h => by unfold insBad; rw [if_pos h]
 have heq := fun h1 h35 => insBad_eq p.classes p.methods.length nl m.code.length x h1 h35
 obtain ⟨op, xa, xb, xn⟩ := x
 simp only at hout heq
 have Hout := Lib.hid hout
 have HeqF := Lib.hid heq
 clear heq hout
 have hcl := hp.cl
 have hms := hp.ms
 have hpa : m.pa.size ≤ 1000 := by omega
 have hlo : m.lo.size ≤ 1000 := by omega
 go_enter Tryz.func111, Tryz.ntmps111
 go_upto_region 2 with (fail)
 have b1 := (((Blk.new w 25 #[.slice Ac p.classes.length cc, .slice Am p.methods.length cm]).alloc (.cells #[.string m.pa, .string m.lo, .string m.re, .slice A m.code.length c] 90)).alloc (.cells #[.int .i64 op, .int .i64 xa, .int .i64 xb, .int .i64 xn] 118))
 have b2 := ((Blk.newAt (w := w.alloc (.cells #[.slice Ac p.classes.length cc, .slice Am p.methods.length cm] 25)) (g := w.heap.size + 1) (by simp) 90 #[.string m.pa, .string m.lo, .string m.re, .slice A m.code.length c]).alloc (.cells #[.int .i64 op, .int .i64 xa, .int .i64 xb, .int .i64 xn] 118))
 have b3 := (Blk.newAt (w := (w.alloc (.cells #[.slice Ac p.classes.length cc, .slice Am p.methods.length cm] 25)).alloc (.cells #[.string m.pa, .string m.lo, .string m.re, .slice A m.code.length c] 90)) (g := w.heap.size + 1 + 1) (by simp) 118 #[.int .i64 op, .int .i64 xa, .int .i64 xb, .int .i64 xn])
 have hw : Below w.heap.size w (((w.alloc (.cells #[.slice Ac p.classes.length cc, .slice Am p.methods.length cm] 25)).alloc (.cells #[.string m.pa, .string m.lo, .string m.re, .slice A m.code.length c] 90)).alloc (.cells #[.int .i64 op, .int .i64 xa, .int .i64 xb, .int .i64 xn] 118)) := (((Below.refl _ _).alloc (Nat.le_refl _) _).alloc (by simp) _).alloc (by simp; omega) _
 generalize ((w.alloc (.cells #[.slice Ac p.classes.length cc, .slice Am p.methods.length cm] 25)).alloc (.cells #[.string m.pa, .string m.lo, .string m.re, .slice A m.code.length c] 90)).alloc (.cells #[.int .i64 op, .int .i64 xa, .int .i64 xb, .int .i64 xn] 118) = w3 at *
 have hr3 := hr.below hw (Nat.le_refl _)
 have hz3 : w.heap.size + 1 + 1 < w3.heap.size := b3.lt
 have p0 := b1.at0
 have p1 := b1.at1
 have m0 := b2.at0
 have m1 := b2.at1
 have m2 := b2.at2
 have m3 := b2.at3
 have i0 := b3.at0
 have i1 := b3.at1
 have i2 := b3.at2
 have i3 := b3.at3
 have e7 : (m.pa.size : Int) + m.lo.size = nl := by omega
 rw [e7]
 clear e7 hnl hpa hlo m0 m1 m2
 by_cases h1 : op < 1
 · have Ho := Lib.hid (Hout.out (.inl h1))
   have f1 : decide (op < 1) = true := by simp; omega
   clear h1
   go_wp2
   go_ret
   exact ⟨by rw [Ho.out]; rfl, hw⟩
 by_cases h35 : 35 < op
 · have Ho := Lib.hid (Hout.out (.inr h35))
   have f1 : decide (op < 1) = false := by simp; omega
   have f2 : decide (35 < op) = true := by simp; omega
   clear h1 h35
   go_wp2
   go_ret
   exact ⟨by rw [Ho.out]; rfl, hw⟩
 have Heq := Lib.hid (HeqF.out (by omega) (by omega))
 have f1 : decide (op < 1) = false := by simp; omega
 have f2 : decide (35 < op) = false := by simp; omega
 clear HeqF Hout
 go_upto_block 0 with (fail)
 go_cut [] from 23 to 114 (fun wx => tgtB m.code.length ⟨op, xa, xb, xn⟩ = false ∧ thereB p.classes p.methods.length nl ⟨op, xa, xb, xn⟩ = true ∧ Below w.heap.size w wx ∧ Blk wx (w.heap.size + 1 + 1) 118 #[.int .i64 op, .int .i64 xa, .int .i64 xb, .int .i64 xn])
 case first =>
  have hc : op = 3 ∨ op = 4 ∨ op = 22 ∨ op = 23 ∨ op = 24 ∨ op = 25 ∨ op = 26 ∨ op = 27 ∨ op = 28 ∨ op = 29 ∨ op = 30 ∨ op = 32 ∨ (op ≠ 3 ∧ op ≠ 4 ∧ op ≠ 22 ∧ op ≠ 23 ∧ op ≠ 24 ∧ op ≠ 25 ∧ op ≠ 26 ∧ op ≠ 27 ∧ op ≠ 28 ∧ op ≠ 29 ∧ op ≠ 30 ∧ op ≠ 32) := by omega
  clear f1 f2 h1 h35
  rcases hc with rfl | rfl | rfl | rfl | rfl | rfl | rfl | rfl | rfl | rfl | rfl | rfl | ⟨n1, n2, n3, n4, n5, n6, n7, n8, n9, n10, n11, n12⟩
  · -- op 3
    cases hi : inB xa nl with
    | true =>
      have hx := in_true hi
      have ht : thereB p.classes p.methods.length nl ⟨3, xa, xb, xn⟩ = true := by simp [thereB, hi]
      have hg : tgtB m.code.length ⟨3, xa, xb, xn⟩ = false := by simp [tgtB]
      have Hg := Lib.hid hg
      have Ht := Lib.hid ht
      clear hi hg ht
      go_wp2
      go_meet
      exact ⟨Hg.out, Ht.out, hw, b3⟩
    | false =>
      have hx := in_not hi
      have hb : insBad p.classes p.methods.length nl m.code.length ⟨3, xa, xb, xn⟩ = 3 := by rw [Heq.out]; simp [thereB, tgtB, hi]
      have Hb := Lib.hid hb
      clear hi hb
      by_cases hx0 : xa < 0
      · go_wp2
        go_ret
        exact ⟨by rw [Hb.out]; rfl, hw⟩
      · have hx1 : ((nl : Nat) : Int) ≤ xa := by omega
        go_wp2
        go_ret
        exact ⟨by rw [Hb.out]; rfl, hw⟩
  · -- op 4
    cases hi : inB xa nl with
    | true =>
      have hx := in_true hi
      have ht : thereB p.classes p.methods.length nl ⟨4, xa, xb, xn⟩ = true := by simp [thereB, hi]
      have hg : tgtB m.code.length ⟨4, xa, xb, xn⟩ = false := by simp [tgtB]
      have Hg := Lib.hid hg
      have Ht := Lib.hid ht
      clear hi hg ht
      go_wp2
      go_meet
      exact ⟨Hg.out, Ht.out, hw, b3⟩
    | false =>
      have hx := in_not hi
      have hb : insBad p.classes p.methods.length nl m.code.length ⟨4, xa, xb, xn⟩ = 3 := by rw [Heq.out]; simp [thereB, tgtB, hi]
      have Hb := Lib.hid hb
      clear hi hb
      by_cases hx0 : xa < 0
      · go_wp2
        go_ret
        exact ⟨by rw [Hb.out]; rfl, hw⟩
      · have hx1 : ((nl : Nat) : Int) ≤ xa := by omega
        go_wp2
        go_ret
        exact ⟨by rw [Hb.out]; rfl, hw⟩
  · -- op 22
    have ht : thereB p.classes p.methods.length nl ⟨22, xa, xb, xn⟩ = true := by simp [thereB]
    have hgg : tgtB m.code.length ⟨22, xa, xb, xn⟩ = !inB xa m.code.length := by simp [tgtB]
    have Ht := Lib.hid ht
    have Hgg := Lib.hid hgg
    clear ht hgg
    cases hi : inB xa m.code.length with
    | true =>
      have hx := in_true hi
      have Hg := Lib.hid (show tgtB m.code.length ⟨22, xa, xb, xn⟩ = false by rw [Hgg.out, hi]; rfl)
      clear hi
      go_wp2
      go_meet
      exact ⟨Hg.out, Ht.out, hw, b3⟩
    | false =>
      have hx := in_not hi
      have hb : insBad p.classes p.methods.length nl m.code.length ⟨22, xa, xb, xn⟩ = 4 := by rw [Heq.out, Hgg.out, hi]; rfl
      have Hb := Lib.hid hb
      clear hi hb
      by_cases hx0 : xa < 0
      · go_wp2
        go_ret
        exact ⟨by rw [Hb.out]; rfl, hw⟩
      · have hx1 : (m.code.length : Int) ≤ xa := by omega
        go_wp2
        go_ret
        exact ⟨by rw [Hb.out]; rfl, hw⟩
  · -- op 23
    have ht : thereB p.classes p.methods.length nl ⟨23, xa, xb, xn⟩ = true := by simp [thereB]
    have hgg : tgtB m.code.length ⟨23, xa, xb, xn⟩ = !inB xa m.code.length := by simp [tgtB]
    have Ht := Lib.hid ht
    have Hgg := Lib.hid hgg
    clear ht hgg
    cases hi : inB xa m.code.length with
    | true =>
      have hx := in_true hi
      have Hg := Lib.hid (show tgtB m.code.length ⟨23, xa, xb, xn⟩ = false by rw [Hgg.out, hi]; rfl)
      clear hi
      go_wp2
      go_meet
      exact ⟨Hg.out, Ht.out, hw, b3⟩
    | false =>
      have hx := in_not hi
      have hb : insBad p.classes p.methods.length nl m.code.length ⟨23, xa, xb, xn⟩ = 4 := by rw [Heq.out, Hgg.out, hi]; rfl
      have Hb := Lib.hid hb
      clear hi hb
      by_cases hx0 : xa < 0
      · go_wp2
        go_ret
        exact ⟨by rw [Hb.out]; rfl, hw⟩
      · have hx1 : (m.code.length : Int) ≤ xa := by omega
        go_wp2
        go_ret
        exact ⟨by rw [Hb.out]; rfl, hw⟩
  · -- op 24
    have Hu := Lib.hid (show usesB 24 = false from rfl)
    cases hi : inB xa p.classes.length with
    | true =>
      have hx := in_true hi
      have ht : thereB p.classes p.methods.length nl ⟨24, xa, xb, xn⟩ = true := by simp [thereB, hi]
      have hg : tgtB m.code.length ⟨24, xa, xb, xn⟩ = false := by simp [tgtB]
      have Hg := Lib.hid hg
      have Ht := Lib.hid ht
      have g1 : decide (xa < 0) = false := by simp; omega
      have g2 : decide ((p.classes.length : Int) ≤ xa) = false := by simp; omega
      clear hi hg ht hx
      go_wp2
      go_quiet ((go_at_call 153; with_reducible exact Calls.quiet_of_same (rusesB_eq Hu.out _)))
      go_wp2
      go_meet
      exact ⟨Hg.out, Ht.out, below_drewN hw _, b3.drewN _⟩
    | false =>
      have hx := in_not hi
      have hb : insBad p.classes p.methods.length nl m.code.length ⟨24, xa, xb, xn⟩ = 3 := by rw [Heq.out]; simp [thereB, tgtB, hi]
      have Hb := Lib.hid hb
      clear hi hb
      by_cases hx0 : xa < 0
      · go_wp2
        go_quiet (fail)
        go_wp2
        go_ret
        exact ⟨by rw [Hb.out]; rfl, below_drewN hw _⟩
      · have g1 : decide (xa < 0) = false := by simp; omega
        have g2 : decide ((p.classes.length : Int) ≤ xa) = true := by simp; omega
        clear hx hx0
        go_wp2
        go_quiet (fail)
        go_wp2
        go_ret
        exact ⟨by rw [Hb.out]; rfl, below_drewN hw _⟩
  · -- op 25
    have Hu := Lib.hid (show usesB 25 = true from rfl)
    cases hi : inB xa p.classes.length with
    | true =>
      have hx := in_true hi
      obtain ⟨k, rfl⟩ : ∃ k : Nat, xa = k := ⟨xa.toNat, by omega⟩
      have hkl : k < p.classes.length := by omega
      obtain ⟨b, off, rfl, hbl, c1⟩ := str_at hr3 hkl
      have hfs := hp.fs k hkl
      have hgd : tgtB m.code.length ⟨25, (k : Int), xb, xn⟩ = false := by simp [tgtB]
      have htt : thereB p.classes p.methods.length nl ⟨25, (k : Int), xb, xn⟩ = inB xb (p.classes.getD k ⟨#[]⟩).size := by simp [thereB, hi]
      have Hi := Lib.hid hi
      have Hgd := Lib.hid hgd
      have Htt := Lib.hid htt
      clear hi hgd htt
      generalize p.classes.getD k ⟨#[]⟩ = s at *
      have k0 : (0 : Int) ≤ k := by omega
      have k1 : (k : Int) < p.classes.length := by omega
      have g1 : decide ((k : Int) < 0) = false := decide_eq_false (by omega)
      have g2 : decide (p.classes.length ≤ k) = false := by simp; omega
      cases hj : inB xb s.size with
      | true =>
        have hy := in_true hj
        have Ht := Lib.hid (show thereB p.classes p.methods.length nl ⟨25, (k : Int), xb, xn⟩ = true by rw [Htt.out, hj])
        have q1 : decide (xb < 0) = false := by simp; omega
        have q2 : decide ((s.size : Int) ≤ xb) = false := by simp; omega
        clear hj hy
        go_wp2
        go_quiet ((go_at_call 153; with_reducible exact Calls.quiet_of_same (rusesB_eq Hu.out _)))
        go_wp2
        go_meet
        exact ⟨Hgd.out, Ht.out, below_drewN hw _, b3.drewN _⟩
      | false =>
        have hy := in_not hj
        have hb : insBad p.classes p.methods.length nl m.code.length ⟨25, (k : Int), xb, xn⟩ = 3 := by rw [Heq.out, Hgd.out, Htt.out, hj]; rfl
        have Hb := Lib.hid hb
        clear hj hb
        by_cases hy0 : xb < 0
        · have q1 : decide (xb < 0) = true := by simpa using hy0
          clear hy hy0
          go_wp2
          go_quiet ((go_at_call 153; with_reducible exact Calls.quiet_of_same (rusesB_eq Hu.out _)))
          go_wp2
          go_ret
          exact ⟨by rw [Hb.out]; rfl, below_drewN hw _⟩
        · have q1 : decide (xb < 0) = false := by simp; omega
          have q2 : decide ((s.size : Int) ≤ xb) = true := by simp; omega
          clear hy hy0
          go_wp2
          go_quiet ((go_at_call 153; with_reducible exact Calls.quiet_of_same (rusesB_eq Hu.out _)))
          go_wp2
          go_ret
          exact ⟨by rw [Hb.out]; rfl, below_drewN hw _⟩
    | false =>
      have hx := in_not hi
      have hb : insBad p.classes p.methods.length nl m.code.length ⟨25, xa, xb, xn⟩ = 3 := by rw [Heq.out]; simp [thereB, tgtB, hi]
      have Hb := Lib.hid hb
      clear hi hb
      by_cases hx0 : xa < 0
      · go_wp2
        go_quiet (fail)
        go_wp2
        go_ret
        exact ⟨by rw [Hb.out]; rfl, below_drewN hw _⟩
      · have g1 : decide (xa < 0) = false := by simp; omega
        have g2 : decide ((p.classes.length : Int) ≤ xa) = true := by simp; omega
        clear hx hx0
        go_wp2
        go_quiet (fail)
        go_wp2
        go_ret
        exact ⟨by rw [Hb.out]; rfl, below_drewN hw _⟩
  · -- op 26
    have Hu := Lib.hid (show usesB 26 = true from rfl)
    cases hi : inB xa p.classes.length with
    | true =>
      have hx := in_true hi
      obtain ⟨k, rfl⟩ : ∃ k : Nat, xa = k := ⟨xa.toNat, by omega⟩
      have hkl : k < p.classes.length := by omega
      obtain ⟨b, off, rfl, hbl, c1⟩ := str_at hr3 hkl
      have hfs := hp.fs k hkl
      have hgd : tgtB m.code.length ⟨26, (k : Int), xb, xn⟩ = false := by simp [tgtB]
      have htt : thereB p.classes p.methods.length nl ⟨26, (k : Int), xb, xn⟩ = inB xb (p.classes.getD k ⟨#[]⟩).size := by simp [thereB, hi]
      have Hi := Lib.hid hi
      have Hgd := Lib.hid hgd
      have Htt := Lib.hid htt
      clear hi hgd htt
      generalize p.classes.getD k ⟨#[]⟩ = s at *
      have k0 : (0 : Int) ≤ k := by omega
      have k1 : (k : Int) < p.classes.length := by omega
      have g1 : decide ((k : Int) < 0) = false := decide_eq_false (by omega)
      have g2 : decide (p.classes.length ≤ k) = false := by simp; omega
      cases hj : inB xb s.size with
      | true =>
        have hy := in_true hj
        have Ht := Lib.hid (show thereB p.classes p.methods.length nl ⟨26, (k : Int), xb, xn⟩ = true by rw [Htt.out, hj])
        have q1 : decide (xb < 0) = false := by simp; omega
        have q2 : decide ((s.size : Int) ≤ xb) = false := by simp; omega
        clear hj hy
        go_wp2
        go_quiet ((go_at_call 153; with_reducible exact Calls.quiet_of_same (rusesB_eq Hu.out _)))
        go_wp2
        go_meet
        exact ⟨Hgd.out, Ht.out, below_drewN hw _, b3.drewN _⟩
      | false =>
        have hy := in_not hj
        have hb : insBad p.classes p.methods.length nl m.code.length ⟨26, (k : Int), xb, xn⟩ = 3 := by rw [Heq.out, Hgd.out, Htt.out, hj]; rfl
        have Hb := Lib.hid hb
        clear hj hb
        by_cases hy0 : xb < 0
        · have q1 : decide (xb < 0) = true := by simpa using hy0
          clear hy hy0
          go_wp2
          go_quiet ((go_at_call 153; with_reducible exact Calls.quiet_of_same (rusesB_eq Hu.out _)))
          go_wp2
          go_ret
          exact ⟨by rw [Hb.out]; rfl, below_drewN hw _⟩
        · have q1 : decide (xb < 0) = false := by simp; omega
          have q2 : decide ((s.size : Int) ≤ xb) = true := by simp; omega
          clear hy hy0
          go_wp2
          go_quiet ((go_at_call 153; with_reducible exact Calls.quiet_of_same (rusesB_eq Hu.out _)))
          go_wp2
          go_ret
          exact ⟨by rw [Hb.out]; rfl, below_drewN hw _⟩
    | false =>
      have hx := in_not hi
      have hb : insBad p.classes p.methods.length nl m.code.length ⟨26, xa, xb, xn⟩ = 3 := by rw [Heq.out]; simp [thereB, tgtB, hi]
      have Hb := Lib.hid hb
      clear hi hb
      by_cases hx0 : xa < 0
      · go_wp2
        go_quiet (fail)
        go_wp2
        go_ret
        exact ⟨by rw [Hb.out]; rfl, below_drewN hw _⟩
      · have g1 : decide (xa < 0) = false := by simp; omega
        have g2 : decide ((p.classes.length : Int) ≤ xa) = true := by simp; omega
        clear hx hx0
        go_wp2
        go_quiet (fail)
        go_wp2
        go_ret
        exact ⟨by rw [Hb.out]; rfl, below_drewN hw _⟩
  · -- op 27
    have Hu := Lib.hid (show usesB 27 = false from rfl)
    cases hi : inB xa p.classes.length with
    | true =>
      have hx := in_true hi
      have ht : thereB p.classes p.methods.length nl ⟨27, xa, xb, xn⟩ = true := by simp [thereB, hi]
      have hg : tgtB m.code.length ⟨27, xa, xb, xn⟩ = false := by simp [tgtB]
      have Hg := Lib.hid hg
      have Ht := Lib.hid ht
      have g1 : decide (xa < 0) = false := by simp; omega
      have g2 : decide ((p.classes.length : Int) ≤ xa) = false := by simp; omega
      clear hi hg ht hx
      go_wp2
      go_quiet ((go_at_call 153; with_reducible exact Calls.quiet_of_same (rusesB_eq Hu.out _)))
      go_wp2
      go_meet
      exact ⟨Hg.out, Ht.out, below_drewN hw _, b3.drewN _⟩
    | false =>
      have hx := in_not hi
      have hb : insBad p.classes p.methods.length nl m.code.length ⟨27, xa, xb, xn⟩ = 3 := by rw [Heq.out]; simp [thereB, tgtB, hi]
      have Hb := Lib.hid hb
      clear hi hb
      by_cases hx0 : xa < 0
      · go_wp2
        go_quiet (fail)
        go_wp2
        go_ret
        exact ⟨by rw [Hb.out]; rfl, below_drewN hw _⟩
      · have g1 : decide (xa < 0) = false := by simp; omega
        have g2 : decide ((p.classes.length : Int) ≤ xa) = true := by simp; omega
        clear hx hx0
        go_wp2
        go_quiet (fail)
        go_wp2
        go_ret
        exact ⟨by rw [Hb.out]; rfl, below_drewN hw _⟩
  · -- op 28
    have hg : tgtB m.code.length ⟨28, xa, xb, xn⟩ = false := by simp [tgtB]
    have htt : thereB p.classes p.methods.length nl ⟨28, xa, xb, xn⟩ = inB xa 2 := by simp [thereB]
    have Hg := Lib.hid hg
    have Htt := Lib.hid htt
    clear hg htt
    by_cases h0 : xa = 0
    · have g0 : (xa != 0) = false := by simp [h0]
      have Ht := Lib.hid (show inB xa 2 = true by rw [h0]; rfl)
      clear h0
      go_wp2
      go_meet
      exact ⟨Hg.out, Htt.out.trans Ht.out, hw, b3⟩
    · have g0 : (xa != 0) = true := by simpa using h0
      by_cases h1 : xa = 1
      · have g1 : (xa != 1) = false := by simp [h1]
        have Ht := Lib.hid (show inB xa 2 = true by rw [h1]; rfl)
        clear h0 h1
        go_wp2
        go_meet
        exact ⟨Hg.out, Htt.out.trans Ht.out, hw, b3⟩
      · have g1 : (xa != 1) = true := by simpa using h1
        have hb : insBad p.classes p.methods.length nl m.code.length ⟨28, xa, xb, xn⟩ = 3 := by
         rw [Heq.out, Hg.out, Htt.out]
         have : inB xa 2 = false := by
          cases h : inB xa 2 with
          | false => rfl
          | true => have := in_true h; omega
         rw [this]
         rfl
        have Hb := Lib.hid hb
        clear h0 h1 hb
        go_wp2
        go_ret
        exact ⟨by rw [Hb.out]; rfl, hw⟩
  · -- op 29
    have hg : tgtB m.code.length ⟨29, xa, xb, xn⟩ = false := by simp [tgtB]
    have htt : thereB p.classes p.methods.length nl ⟨29, xa, xb, xn⟩ = inB xa 2 := by simp [thereB]
    have Hg := Lib.hid hg
    have Htt := Lib.hid htt
    clear hg htt
    by_cases h0 : xa = 0
    · have g0 : (xa != 0) = false := by simp [h0]
      have Ht := Lib.hid (show inB xa 2 = true by rw [h0]; rfl)
      clear h0
      go_wp2
      go_meet
      exact ⟨Hg.out, Htt.out.trans Ht.out, hw, b3⟩
    · have g0 : (xa != 0) = true := by simpa using h0
      by_cases h1 : xa = 1
      · have g1 : (xa != 1) = false := by simp [h1]
        have Ht := Lib.hid (show inB xa 2 = true by rw [h1]; rfl)
        clear h0 h1
        go_wp2
        go_meet
        exact ⟨Hg.out, Htt.out.trans Ht.out, hw, b3⟩
      · have g1 : (xa != 1) = true := by simpa using h1
        have hb : insBad p.classes p.methods.length nl m.code.length ⟨29, xa, xb, xn⟩ = 3 := by
         rw [Heq.out, Hg.out, Htt.out]
         have : inB xa 2 = false := by
          cases h : inB xa 2 with
          | false => rfl
          | true => have := in_true h; omega
         rw [this]
         rfl
        have Hb := Lib.hid hb
        clear h0 h1 hb
        go_wp2
        go_ret
        exact ⟨by rw [Hb.out]; rfl, hw⟩
  · -- op 30
    have hg : tgtB m.code.length ⟨30, xa, xb, xn⟩ = false := by simp [tgtB]
    have htt : thereB p.classes p.methods.length nl ⟨30, xa, xb, xn⟩ = inB xa 2 := by simp [thereB]
    have Hg := Lib.hid hg
    have Htt := Lib.hid htt
    clear hg htt
    by_cases h0 : xa = 0
    · have g0 : (xa != 0) = false := by simp [h0]
      have Ht := Lib.hid (show inB xa 2 = true by rw [h0]; rfl)
      clear h0
      go_wp2
      go_meet
      exact ⟨Hg.out, Htt.out.trans Ht.out, hw, b3⟩
    · have g0 : (xa != 0) = true := by simpa using h0
      by_cases h1 : xa = 1
      · have g1 : (xa != 1) = false := by simp [h1]
        have Ht := Lib.hid (show inB xa 2 = true by rw [h1]; rfl)
        clear h0 h1
        go_wp2
        go_meet
        exact ⟨Hg.out, Htt.out.trans Ht.out, hw, b3⟩
      · have g1 : (xa != 1) = true := by simpa using h1
        have hb : insBad p.classes p.methods.length nl m.code.length ⟨30, xa, xb, xn⟩ = 3 := by
         rw [Heq.out, Hg.out, Htt.out]
         have : inB xa 2 = false := by
          cases h : inB xa 2 with
          | false => rfl
          | true => have := in_true h; omega
         rw [this]
         rfl
        have Hb := Lib.hid hb
        clear h0 h1 hb
        go_wp2
        go_ret
        exact ⟨by rw [Hb.out]; rfl, hw⟩
  · -- op 32
    have hg : tgtB m.code.length ⟨32, xa, xb, xn⟩ = false := by simp [tgtB]
    have htt : thereB p.classes p.methods.length nl ⟨32, xa, xb, xn⟩ = (decide (0 < xa) && inB xa p.methods.length) := by simp [thereB]
    have Hg := Lib.hid hg
    have Htt := Lib.hid htt
    clear hg htt
    by_cases h0 : 1 ≤ xa
    · by_cases h1 : xa < p.methods.length
      · have Ht := Lib.hid (show thereB p.classes p.methods.length nl ⟨32, xa, xb, xn⟩ = true by rw [Htt.out]; simp [inB]; omega)
        go_wp2
        go_meet
        exact ⟨Hg.out, Ht.out, hw, b3⟩
      · have hb : insBad p.classes p.methods.length nl m.code.length ⟨32, xa, xb, xn⟩ = 3 := by
         rw [Heq.out, Hg.out, Htt.out]
         have : inB xa p.methods.length = false := by simp [inB]; omega
         rw [this]
         simp
        have Hb := Lib.hid hb
        clear hb
        go_wp2
        go_ret
        exact ⟨by rw [Hb.out]; rfl, hw⟩
    · have hb : insBad p.classes p.methods.length nl m.code.length ⟨32, xa, xb, xn⟩ = 3 := by
       rw [Heq.out, Hg.out, Htt.out, decide_eq_false (by omega)]
       rfl
      have Hb := Lib.hid hb
      clear hb
      go_wp2
      go_ret
      exact ⟨by rw [Hb.out]; rfl, hw⟩
  · have ht : thereB p.classes p.methods.length nl ⟨op, xa, xb, xn⟩ = true := by simp [thereB, *]
    have hg : tgtB m.code.length ⟨op, xa, xb, xn⟩ = false := by simp [tgtB, *]
    have Hg := Lib.hid hg
    have Ht := Lib.hid ht
    have g1 : (op == 3) = false := by simp; omega
    have g2 : (op == 4) = false := by simp; omega
    have g3 : (op == 24) = false := by simp; omega
    have g4 : (op == 25) = false := by simp; omega
    have g5 : (op == 26) = false := by simp; omega
    have g6 : (op == 27) = false := by simp; omega
    have g7 : (op == 28) = false := by simp; omega
    have g8 : (op == 29) = false := by simp; omega
    have g9 : (op == 30) = false := by simp; omega
    have g10 : (op == 32) = false := by simp; omega
    have g11 : (op == 22) = false := by simp; omega
    have g12 : (op == 23) = false := by simp; omega
    clear hg ht n1 n2 n3 n4 n5 n6 n7 n8 n9 n10 n11 n12
    go_wp2
    go_meet
    exact ⟨Hg.out, Ht.out, hw, b3⟩
 case rest =>
  obtain ⟨hG, hT, hbx, hbi⟩ := hcut
  have hE := Heq.out
  rw [hG, hT] at hE
  have hE2 : insBad p.classes p.methods.length nl m.code.length ⟨op, xa, xb, xn⟩ = if wantB ⟨op, xa, xb, xn⟩ = true then 3 else 0 := by simpa using hE
  have HE := Lib.hid hE2
  have hwb : wantB ⟨op, xa, xb, xn⟩ = (!usesA op && decide (xa ≠ 0) || (!usesB op && decide (xb ≠ 0) || !decide (op = 1) && decide (xn ≠ 0))) := rfl
  have Hwb := Lib.hid hwb
  have HA := Lib.hid (fun W => rusesA_any op W)
  have HB := Lib.hid (fun W => rusesB_any op W)
  clear hE hE2 hG hT hwb Heq p0 p1 m3 i0 i1 i2 i3 b1 b2 b3 hr3 hr
  have i0 := hbi.at0
  have i1 := hbi.at1
  have i2 := hbi.at2
  have i3 := hbi.at3
  have hzi := hbi.lt
  generalize wantB ⟨op, xa, xb, xn⟩ = wb at *
  generalize usesA op = ua at *
  generalize usesB op = ub at *
  generalize iv ⟨op, xa, xb, xn⟩ = ivv at *
  go_upto_region 27 with (fail)
  go_cut [144] from 115 to 144 (fun v w2 => v = .bool wb ∧ Below w.heap.size w w2)
  case first =>
   by_cases h1 : op = 1
   · have e1 : (op != 1) = false := by simp [h1]
     have e2 := Lib.hid (show decide (op = 1) = true by simp [h1])
     rw [e2.out] at Hwb
     clear h1
     cases ua <;> cases ub
     all_goals
      go_wp2_with (first | (go_at_call 154; refine (HA.out _).mono ?_; rintro e w' ⟨rfl, rfl⟩) | (go_at_call 153; refine (HB.out _).mono ?_; rintro e w' ⟨rfl, rfl⟩))
      all_goals
       go_meet
       refine ⟨congrArg Value.bool ?_, hbx⟩
       rw [Hwb.out, Bool.eq_iff_iff]
       simp [*]
   · have e1 : (op != 1) = true := by simp [h1]
     have e2 := Lib.hid (show decide (op = 1) = false by simp [h1])
     rw [e2.out] at Hwb
     clear h1
     cases ua <;> cases ub
     all_goals
      go_wp2_with (first | (go_at_call 154; refine (HA.out _).mono ?_; rintro e w' ⟨rfl, rfl⟩) | (go_at_call 153; refine (HB.out _).mono ?_; rintro e w' ⟨rfl, rfl⟩))
      all_goals
       go_meet
       refine ⟨congrArg Value.bool ?_, hbx⟩
       rw [Hwb.out, Bool.eq_iff_iff]
       simp [*]
  case rest =>
   obtain ⟨rfl, hbx⟩ := hcut
   cases hf : wb with
   | true =>
     rw [hf] at HE
     go_wp2
     go_ret
     exact ⟨by rw [HE.out]; rfl, hbx⟩
   | false =>
     rw [hf] at HE
     go_wp2
     go_ret
     exact ⟨by rw [HE.out]; rfl, hbx⟩
theorem rinstr_any (Ac Am : Option Addr) (cc cm : Nat) (p : Prg) (w : World) (hr : Rd w w.heap.size 1 Ac p.classes.length (p.classes.map Value.string)) (hp : POk p)
 (A : Option Addr) (c : Nat) (m : Mth) (hk : m.pa.size + m.lo.size ≤ 1000) (hmc : m.code.length ≤ 9223372036854775807) (x : Ins) :
 Calls Tryz.prog 111 #[pv Ac cc Am cm p, mv A c m, iv x] w fun e w' => e = .returned (.int .i64 (codeOf (insBad p.classes p.methods.length (m.pa.size + m.lo.size) m.code.length x))) ∧ Below w.heap.size w w' :=
 rinstr_nl Ac Am cc cm p w hr hp A c m _ rfl hk hmc x
end Go.Proofs.YtjjmpfmhggcjiaaGreatDoor
