/-
 SsO1.
-/
import Derived.Test.YtjjmpfmhggcjiaaGreatDoorJSnLaw
set_option linter.unusedSimpArgs false
set_option linter.unusedVariables false
namespace Go.Proofs.YtjjmpfmhggcjiaaGreatDoor
open Go.RowKit Go.Maps
set_option maxRecDepth 100000 in
set_option maxHeartbeats 8000000 in
theorem of_1 {w : World} {S : Nat → Prop} {gc gv : Nat} {p : Prg} {vs : List Vs} {f : Fn} {gb gp : Nat} {blk plc : List Int} {tv lv dv : Value} (hN : NodesIn w S gc gv p vs f gb gp blk plc tv lv dv) {i : Nat} (hi : i < f.nodes.length) (hop : (ndAt f i).op = 1) :
 Calls Tryz.prog 94 #[.pointer (some ⟨gc, 0, none⟩), .int .i64 i] w (OfPost w (formF p f blk i)) := by
 have hPP : ∀ fm w' r, formF p f blk i = r → Below w.heap.size w w' → (r.isSome = true → r = some fm) → OfPost w (formF p f blk i) (.returned (.tuple #[formV fm, .bool r.isSome])) w' := fun fm w' r h1 h2 h3 => by
  subst h1
  exact ⟨h2, fm, rfl, h3⟩
 have HP := Lib.hid hPP
 clear hPP
 have HN := Lib.hid hN
 obtain ⟨Ac, cc, Am, cm, An, cn, Ab, cb, As, cs, hC⟩ := hN.chk
 have c5 : w.cell? ⟨gc, 5, none⟩ = some (.slice An f.nodes.length cn) := hC.blk.cell 5
 have lC := hC.blk.lt
 obtain ⟨bn, on_, A1, c1n, hAn, hSn, v0, v1, v2, v3, v4, v5, v6, -⟩ := rd_nd hC.fn.nodes hi
 subst hAn
 have i0 : (0 : Int) ≤ i := by omega
 have i1 : (i : Int) < f.nodes.length := by omega
 have hnd := hN.nd
 have lbn := (hC.lt bn hSn).1
 have hm := in_true hN.mth
 have mth0 : 0 ≤ f.mth := hm.1
 have mth1 : f.mth < p.methods.length := hm.2
 obtain ⟨x, hxx⟩ : ∃ x, ndAt f i = x := ⟨_, rfl⟩
 have hxg : f.nodes.getD i default = x := hxx
 rw [hxg] at v0 v1 v2 v3 v4 v5 v6
 have HC := Lib.hid hC
 obtain ⟨op, xa, xb, st, kd, xn, args⟩ := x
 obtain rfl : op = 1 := by
  have := hop
  rw [hxx] at this
  exact this
 have Hx := Lib.hid hxx
 clear hxx hxg hop hN hC hm
 generalize hpost : OfPost w (formF p f blk i) = Post at *
 clear hpost
 go_enter Tryz.func94, Tryz.ntmps94
 go_upto_region 3 with (fail)
 have R2 := (Blk.new w 172 #[.string ⟨#[]⟩, .string ⟨#[]⟩, .bool false, .bool false, .bool false, .bool false]).alloc (.cells #[.int .i64 1, .int .i64 xa, .int .i64 xb, .int .i64 st, .string kd, .int .i64 xn, .slice A1 args.length c1n] 59)
 have X2 := Blk.newAt (w := w.alloc (.cells #[.string ⟨#[]⟩, .string ⟨#[]⟩, .bool false, .bool false, .bool false, .bool false] 172)) (g := w.heap.size + 1) (by simp) 59 #[.int .i64 1, .int .i64 xa, .int .i64 xb, .int .i64 st, .string kd, .int .i64 xn, .slice A1 args.length c1n]
 have hb2 := ((Below.refl w.heap.size w).alloc (Nat.le_refl _) (.cells #[.string ⟨#[]⟩, .string ⟨#[]⟩, .bool false, .bool false, .bool false, .bool false] 172)).alloc (by simp) (.cells #[.int .i64 1, .int .i64 xa, .int .i64 xb, .int .i64 st, .string kd, .int .i64 xn, .slice A1 args.length c1n] 59)
 clear c5 v0 v1 v2 v3 v4 v5 v6 lbn lC
 generalize (w.alloc (.cells #[.string ⟨#[]⟩, .string ⟨#[]⟩, .bool false, .bool false, .bool false, .bool false] 172)).alloc (.cells #[.int .i64 1, .int .i64 xa, .int .i64 xb, .int .i64 st, .string kd, .int .i64 xn, .slice A1 args.length c1n] 59) = w2 at *
 have HC2 := Lib.hid (HC.out.below hb2)
 have HN2 := Lib.hid (HN.out.below hb2)
 have x0 := X2.at0
 have x1 := X2.at1
 have x2 := X2.at2
 have x4 : w2.cell? ⟨w.heap.size + 1, 4, none⟩ = some (.string kd) := X2.cell 4
 have x5 : w2.cell? ⟨w.heap.size + 1, 5, none⟩ = some (.int .i64 xn) := X2.cell 5
 have lR2 := R2.lt
 have lX2 := X2.lt
 have Hf := Lib.hid (show formF p f blk i = some ⟨sI, sE, false, false, true, false⟩ by unfold formF; rw [Hx.out]; rfl)
 have r0 := R2.at0
 have r1 := R2.at1
 have r2 := R2.at2
 have r3 := R2.at3
 have r4 : w2.cell? ⟨w.heap.size, 4, none⟩ = some (.bool false) := R2.cell 4
 have r5 : w2.cell? ⟨w.heap.size, 5, none⟩ = some (.bool false) := R2.cell 5
 have f0 := R2.frozen 0
 have f1 := R2.frozen 1
 have f2 := R2.frozen 2
 have f3 := R2.frozen 3
 have f4 := R2.frozen 4
 have f5 := R2.frozen 5
 go_wp2
 have Q6 := R2.set6 (a := .string ⟨#[73]⟩) (b := .string ⟨#[]⟩) (c := .bool false) (d := .bool false) (e := .bool true) (f := .bool false)
 have q0 := Q6.at0
 have q1 := Q6.at1
 have q2 := Q6.at2
 have q3 := Q6.at3
 have q4 := Q6.cell 4
 have q5 := Q6.cell 5
 simp only [set6] at q0 q1 q2 q3 q4 q5
 refine bodyPost_ret (v := .tuple #[formV ⟨sI, sE, false, false, true, false⟩, .bool true]) (by simp [results, Tryz.results94, go_sem, q0, q1, q2, q3, q4, q5, sE, sI, sR, sII, sRR, sRI]) rfl ?_
 exact HP.out ⟨sI, sE, false, false, true, false⟩ _ (some _) Hf.out (below_set6 hb2 (Nat.le_refl _)) (fun _ => rfl)
set_option maxRecDepth 100000 in
set_option maxHeartbeats 8000000 in
theorem of_46 {w : World} {S : Nat → Prop} {gc gv : Nat} {p : Prg} {vs : List Vs} {f : Fn} {gb gp : Nat} {blk plc : List Int} {tv lv dv : Value} (hN : NodesIn w S gc gv p vs f gb gp blk plc tv lv dv) {i : Nat} (hi : i < f.nodes.length) (hop : (ndAt f i).op = 46) :
 Calls Tryz.prog 94 #[.pointer (some ⟨gc, 0, none⟩), .int .i64 i] w (OfPost w (formF p f blk i)) := by
 have hPP : ∀ fm w' r, formF p f blk i = r → Below w.heap.size w w' → (r.isSome = true → r = some fm) → OfPost w (formF p f blk i) (.returned (.tuple #[formV fm, .bool r.isSome])) w' := fun fm w' r h1 h2 h3 => by
  subst h1
  exact ⟨h2, fm, rfl, h3⟩
 have HP := Lib.hid hPP
 clear hPP
 have HN := Lib.hid hN
 obtain ⟨Ac, cc, Am, cm, An, cn, Ab, cb, As, cs, hC⟩ := hN.chk
 have c5 : w.cell? ⟨gc, 5, none⟩ = some (.slice An f.nodes.length cn) := hC.blk.cell 5
 have lC := hC.blk.lt
 obtain ⟨bn, on_, A1, c1n, hAn, hSn, v0, v1, v2, v3, v4, v5, v6, -⟩ := rd_nd hC.fn.nodes hi
 subst hAn
 have i0 : (0 : Int) ≤ i := by omega
 have i1 : (i : Int) < f.nodes.length := by omega
 have hnd := hN.nd
 have lbn := (hC.lt bn hSn).1
 have hm := in_true hN.mth
 have mth0 : 0 ≤ f.mth := hm.1
 have mth1 : f.mth < p.methods.length := hm.2
 obtain ⟨x, hxx⟩ : ∃ x, ndAt f i = x := ⟨_, rfl⟩
 have hxg : f.nodes.getD i default = x := hxx
 rw [hxg] at v0 v1 v2 v3 v4 v5 v6
 have HC := Lib.hid hC
 obtain ⟨op, xa, xb, st, kd, xn, args⟩ := x
 obtain rfl : op = 46 := by
  have := hop
  rw [hxx] at this
  exact this
 have Hx := Lib.hid hxx
 clear hxx hxg hop hN hC hm
 generalize hpost : OfPost w (formF p f blk i) = Post at *
 clear hpost
 go_enter Tryz.func94, Tryz.ntmps94
 go_upto_region 3 with (fail)
 have R2 := (Blk.new w 172 #[.string ⟨#[]⟩, .string ⟨#[]⟩, .bool false, .bool false, .bool false, .bool false]).alloc (.cells #[.int .i64 46, .int .i64 xa, .int .i64 xb, .int .i64 st, .string kd, .int .i64 xn, .slice A1 args.length c1n] 59)
 have X2 := Blk.newAt (w := w.alloc (.cells #[.string ⟨#[]⟩, .string ⟨#[]⟩, .bool false, .bool false, .bool false, .bool false] 172)) (g := w.heap.size + 1) (by simp) 59 #[.int .i64 46, .int .i64 xa, .int .i64 xb, .int .i64 st, .string kd, .int .i64 xn, .slice A1 args.length c1n]
 have hb2 := ((Below.refl w.heap.size w).alloc (Nat.le_refl _) (.cells #[.string ⟨#[]⟩, .string ⟨#[]⟩, .bool false, .bool false, .bool false, .bool false] 172)).alloc (by simp) (.cells #[.int .i64 46, .int .i64 xa, .int .i64 xb, .int .i64 st, .string kd, .int .i64 xn, .slice A1 args.length c1n] 59)
 clear c5 v0 v1 v2 v3 v4 v5 v6 lbn lC
 generalize (w.alloc (.cells #[.string ⟨#[]⟩, .string ⟨#[]⟩, .bool false, .bool false, .bool false, .bool false] 172)).alloc (.cells #[.int .i64 46, .int .i64 xa, .int .i64 xb, .int .i64 st, .string kd, .int .i64 xn, .slice A1 args.length c1n] 59) = w2 at *
 have HC2 := Lib.hid (HC.out.below hb2)
 have HN2 := Lib.hid (HN.out.below hb2)
 have x0 := X2.at0
 have x1 := X2.at1
 have x2 := X2.at2
 have x4 : w2.cell? ⟨w.heap.size + 1, 4, none⟩ = some (.string kd) := X2.cell 4
 have x5 : w2.cell? ⟨w.heap.size + 1, 5, none⟩ = some (.int .i64 xn) := X2.cell 5
 have lR2 := R2.lt
 have lX2 := X2.lt
 have Hf := Lib.hid (show formF p f blk i = some ⟨sE, sI, false, false, false, false⟩ by unfold formF; rw [Hx.out]; rfl)
 have r0 := R2.at0
 have r1 := R2.at1
 have r2 := R2.at2
 have r3 := R2.at3
 have r4 : w2.cell? ⟨w.heap.size, 4, none⟩ = some (.bool false) := R2.cell 4
 have r5 : w2.cell? ⟨w.heap.size, 5, none⟩ = some (.bool false) := R2.cell 5
 have f0 := R2.frozen 0
 have f1 := R2.frozen 1
 have f2 := R2.frozen 2
 have f3 := R2.frozen 3
 have f4 := R2.frozen 4
 have f5 := R2.frozen 5
 go_wp2
 have Q6 := R2.set6 (a := .string ⟨#[]⟩) (b := .string ⟨#[73]⟩) (c := .bool false) (d := .bool false) (e := .bool false) (f := .bool false)
 have q0 := Q6.at0
 have q1 := Q6.at1
 have q2 := Q6.at2
 have q3 := Q6.at3
 have q4 := Q6.cell 4
 have q5 := Q6.cell 5
 simp only [set6] at q0 q1 q2 q3 q4 q5
 refine bodyPost_ret (v := .tuple #[formV ⟨sE, sI, false, false, false, false⟩, .bool true]) (by simp [results, Tryz.results94, go_sem, q0, q1, q2, q3, q4, q5, sE, sI, sR, sII, sRR, sRI]) rfl ?_
 exact HP.out ⟨sE, sI, false, false, false, false⟩ _ (some _) Hf.out (below_set6 hb2 (Nat.le_refl _)) (fun _ => rfl)
set_option maxRecDepth 100000 in
set_option maxHeartbeats 8000000 in
theorem of_45 {w : World} {S : Nat → Prop} {gc gv : Nat} {p : Prg} {vs : List Vs} {f : Fn} {gb gp : Nat} {blk plc : List Int} {tv lv dv : Value} (hN : NodesIn w S gc gv p vs f gb gp blk plc tv lv dv) {i : Nat} (hi : i < f.nodes.length) (hop : (ndAt f i).op = 45) :
 Calls Tryz.prog 94 #[.pointer (some ⟨gc, 0, none⟩), .int .i64 i] w (OfPost w (formF p f blk i)) := by
 have hPP : ∀ fm w' r, formF p f blk i = r → Below w.heap.size w w' → (r.isSome = true → r = some fm) → OfPost w (formF p f blk i) (.returned (.tuple #[formV fm, .bool r.isSome])) w' := fun fm w' r h1 h2 h3 => by
  subst h1
  exact ⟨h2, fm, rfl, h3⟩
 have HP := Lib.hid hPP
 clear hPP
 have HN := Lib.hid hN
 obtain ⟨Ac, cc, Am, cm, An, cn, Ab, cb, As, cs, hC⟩ := hN.chk
 have c5 : w.cell? ⟨gc, 5, none⟩ = some (.slice An f.nodes.length cn) := hC.blk.cell 5
 have lC := hC.blk.lt
 obtain ⟨bn, on_, A1, c1n, hAn, hSn, v0, v1, v2, v3, v4, v5, v6, -⟩ := rd_nd hC.fn.nodes hi
 subst hAn
 have i0 : (0 : Int) ≤ i := by omega
 have i1 : (i : Int) < f.nodes.length := by omega
 have hnd := hN.nd
 have lbn := (hC.lt bn hSn).1
 have hm := in_true hN.mth
 have mth0 : 0 ≤ f.mth := hm.1
 have mth1 : f.mth < p.methods.length := hm.2
 obtain ⟨x, hxx⟩ : ∃ x, ndAt f i = x := ⟨_, rfl⟩
 have hxg : f.nodes.getD i default = x := hxx
 rw [hxg] at v0 v1 v2 v3 v4 v5 v6
 have HC := Lib.hid hC
 obtain ⟨op, xa, xb, st, kd, xn, args⟩ := x
 obtain rfl : op = 45 := by
  have := hop
  rw [hxx] at this
  exact this
 have Hx := Lib.hid hxx
 clear hxx hxg hop hN hC hm
 generalize hpost : OfPost w (formF p f blk i) = Post at *
 clear hpost
 go_enter Tryz.func94, Tryz.ntmps94
 go_upto_region 3 with (fail)
 have R2 := (Blk.new w 172 #[.string ⟨#[]⟩, .string ⟨#[]⟩, .bool false, .bool false, .bool false, .bool false]).alloc (.cells #[.int .i64 45, .int .i64 xa, .int .i64 xb, .int .i64 st, .string kd, .int .i64 xn, .slice A1 args.length c1n] 59)
 have X2 := Blk.newAt (w := w.alloc (.cells #[.string ⟨#[]⟩, .string ⟨#[]⟩, .bool false, .bool false, .bool false, .bool false] 172)) (g := w.heap.size + 1) (by simp) 59 #[.int .i64 45, .int .i64 xa, .int .i64 xb, .int .i64 st, .string kd, .int .i64 xn, .slice A1 args.length c1n]
 have hb2 := ((Below.refl w.heap.size w).alloc (Nat.le_refl _) (.cells #[.string ⟨#[]⟩, .string ⟨#[]⟩, .bool false, .bool false, .bool false, .bool false] 172)).alloc (by simp) (.cells #[.int .i64 45, .int .i64 xa, .int .i64 xb, .int .i64 st, .string kd, .int .i64 xn, .slice A1 args.length c1n] 59)
 clear c5 v0 v1 v2 v3 v4 v5 v6 lbn lC
 generalize (w.alloc (.cells #[.string ⟨#[]⟩, .string ⟨#[]⟩, .bool false, .bool false, .bool false, .bool false] 172)).alloc (.cells #[.int .i64 45, .int .i64 xa, .int .i64 xb, .int .i64 st, .string kd, .int .i64 xn, .slice A1 args.length c1n] 59) = w2 at *
 have HC2 := Lib.hid (HC.out.below hb2)
 have HN2 := Lib.hid (HN.out.below hb2)
 have x0 := X2.at0
 have x1 := X2.at1
 have x2 := X2.at2
 have x4 : w2.cell? ⟨w.heap.size + 1, 4, none⟩ = some (.string kd) := X2.cell 4
 have x5 : w2.cell? ⟨w.heap.size + 1, 5, none⟩ = some (.int .i64 xn) := X2.cell 5
 have lR2 := R2.lt
 have lX2 := X2.lt
 have Hf := Lib.hid (show formF p f blk i = some ⟨sE, sE, false, false, false, false⟩ by unfold formF; rw [Hx.out]; rfl)
 have r0 := R2.at0
 have r1 := R2.at1
 have r2 := R2.at2
 have r3 := R2.at3
 have r4 : w2.cell? ⟨w.heap.size, 4, none⟩ = some (.bool false) := R2.cell 4
 have r5 : w2.cell? ⟨w.heap.size, 5, none⟩ = some (.bool false) := R2.cell 5
 have f0 := R2.frozen 0
 have f1 := R2.frozen 1
 have f2 := R2.frozen 2
 have f3 := R2.frozen 3
 have f4 := R2.frozen 4
 have f5 := R2.frozen 5
 go_wp2
 have Q6 := R2.set6 (a := .string ⟨#[]⟩) (b := .string ⟨#[]⟩) (c := .bool false) (d := .bool false) (e := .bool false) (f := .bool false)
 have q0 := Q6.at0
 have q1 := Q6.at1
 have q2 := Q6.at2
 have q3 := Q6.at3
 have q4 := Q6.cell 4
 have q5 := Q6.cell 5
 simp only [set6] at q0 q1 q2 q3 q4 q5
 refine bodyPost_ret (v := .tuple #[formV ⟨sE, sE, false, false, false, false⟩, .bool true]) (by simp [results, Tryz.results94, go_sem, q0, q1, q2, q3, q4, q5, sE, sI, sR, sII, sRR, sRI]) rfl ?_
 exact HP.out ⟨sE, sE, false, false, false, false⟩ _ (some _) Hf.out (below_set6 hb2 (Nat.le_refl _)) (fun _ => rfl)
end Go.Proofs.YtjjmpfmhggcjiaaGreatDoor
