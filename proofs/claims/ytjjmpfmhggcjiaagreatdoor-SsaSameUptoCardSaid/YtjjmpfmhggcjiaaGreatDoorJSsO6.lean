/-
 SsO6.
-/
import Derived.Test.YtjjmpfmhggcjiaaGreatDoorJSsO2
set_option linter.unusedSimpArgs false
set_option linter.unusedVariables false
namespace Go.Proofs.YtjjmpfmhggcjiaaGreatDoor
open Go.RowKit Go.Maps
theorem str_eqb2 (s t : ByteArray) : (s.toList == t.toList) = decide (s = t) := by
 rw [Bool.eq_iff_iff]
 simp only [beq_iff_eq, decide_eq_true_eq]
 exact ⟨fun h => ByteArray.ext (Array.ext' (by rw [ByteArray.toList_eq, ByteArray.toList_eq] at h; exact h)), fun h => by rw [h]⟩
theorem sI_list : sI.toList = [73] := by rw [ByteArray.toList_eq]; rfl
theorem sR_list : sR.toList = [82] := by rw [ByteArray.toList_eq]; rfl
theorem repB_size (s : ByteArray) : ∀ n, (repB s n).size = n * s.size
 | 0 => by rw [Nat.zero_mul]; rfl
 | n + 1 => by rw [repB, ByteArray.size_append, repB_size s n, Nat.succ_mul]
set_option maxRecDepth 100000 in
set_option maxHeartbeats 8000000 in
theorem of_41 {w : World} {S : Nat → Prop} {gc gv : Nat} {p : Prg} {vs : List Vs} {f : Fn} {gb gp : Nat} {blk plc : List Int} {tv lv dv : Value} (hN : NodesIn w S gc gv p vs f gb gp blk plc tv lv dv) {i : Nat} (hi : i < f.nodes.length) (hop : (ndAt f i).op = 41) :
 Calls Tryz.prog 94 #[.pointer (some ⟨gc, 0, none⟩), .int .i64 i] w (OfPost w (formF p f blk i)) := by
 have hPP : ∀ fm w' r, formF p f blk i = r → Below w.heap.size w w' → (r.isSome = true → r = some fm) → OfPost w (formF p f blk i) (.returned (.tuple #[formV fm, .bool r.isSome])) w' := fun fm w' r h1 h2 h3 => by
  subst h1
  exact ⟨h2, fm, rfl, h3⟩
 have HP := Lib.hid hPP
 clear hPP
 have HN := Lib.hid hN
 obtain ⟨Ac, cc, Am, cm, An, cn, Ab, cb, As, cs, hC⟩ := hN.chk
 have c5 : w.cell? ⟨gc, 5, none⟩ = some (.slice An f.nodes.length cn) := hC.blk.cell 5
 have lC := hC.blk.lt
 obtain ⟨bn, on_, A1, c1n, hAn, hSn, v0, v1, v2, v3, v4, v5, v6, -⟩ := rd_nd hC.fn.nodes hi
 subst hAn
 have i0 : (0 : Int) ≤ i := by omega
 have i1 : (i : Int) < f.nodes.length := by omega
 have hnd := hN.nd
 have lbn := (hC.lt bn hSn).1
 have hm := in_true hN.mth
 have mth0 : 0 ≤ f.mth := hm.1
 have mth1 : f.mth < p.methods.length := hm.2
 obtain ⟨x, hxx⟩ : ∃ x, ndAt f i = x := ⟨_, rfl⟩
 have hxg : f.nodes.getD i default = x := hxx
 rw [hxg] at v0 v1 v2 v3 v4 v5 v6
 have HC := Lib.hid hC
 obtain ⟨op, xa, xb_, st, kd, xn, args⟩ := x
 obtain rfl : op = 41 := by
  have := hop
  rw [hxx] at this
  exact this
 have Hx := Lib.hid hxx
 clear hxx hxg hop hN hC hm
 generalize hpost : OfPost w (formF p f blk i) = Post at *
 clear hpost
 go_enter Tryz.func94, Tryz.ntmps94
 go_upto_region 3 with (fail)
 have R2 := (Blk.new w 172 #[.string ⟨#[]⟩, .string ⟨#[]⟩, .bool false, .bool false, .bool false, .bool false]).alloc (.cells #[.int .i64 41, .int .i64 xa, .int .i64 xb_, .int .i64 st, .string kd, .int .i64 xn, .slice A1 args.length c1n] 59)
 have X2 := Blk.newAt (w := w.alloc (.cells #[.string ⟨#[]⟩, .string ⟨#[]⟩, .bool false, .bool false, .bool false, .bool false] 172)) (g := w.heap.size + 1) (by simp) 59 #[.int .i64 41, .int .i64 xa, .int .i64 xb_, .int .i64 st, .string kd, .int .i64 xn, .slice A1 args.length c1n]
 have hb2 := ((Below.refl w.heap.size w).alloc (Nat.le_refl _) (.cells #[.string ⟨#[]⟩, .string ⟨#[]⟩, .bool false, .bool false, .bool false, .bool false] 172)).alloc (by simp) (.cells #[.int .i64 41, .int .i64 xa, .int .i64 xb_, .int .i64 st, .string kd, .int .i64 xn, .slice A1 args.length c1n] 59)
 clear c5 v0 v1 v2 v3 v4 v5 v6 lbn lC
 generalize (w.alloc (.cells #[.string ⟨#[]⟩, .string ⟨#[]⟩, .bool false, .bool false, .bool false, .bool false] 172)).alloc (.cells #[.int .i64 41, .int .i64 xa, .int .i64 xb_, .int .i64 st, .string kd, .int .i64 xn, .slice A1 args.length c1n] 59) = w2 at *
 have HC2 := Lib.hid (HC.out.below hb2)
 have HN2 := Lib.hid (HN.out.below hb2)
 have x0 := X2.at0
 have x1 := X2.at1
 have x2 := X2.at2
 have x4 : w2.cell? ⟨w.heap.size + 1, 4, none⟩ = some (.string kd) := X2.cell 4
 have x5 : w2.cell? ⟨w.heap.size + 1, 5, none⟩ = some (.int .i64 xn) := X2.cell 5
 have lR2 := R2.lt
 have lX2 := X2.lt
 obtain ⟨b, k, hbl, -, hbi, -, -⟩ := HN.out.st.blk_at hi
 have hF : formF p f blk i = if kd = sI ∨ kd = sR then some ⟨kd, repB kd (f.blocks.getD b default).preds.length, false, false, false, false⟩ else none := by
  unfold formF
  rw [Hx.out, hbi]
  rfl
 have hkd : kd.size ≤ 1000000 := by
  have := HN.out.kinds i hi
  rw [Hx.out] at this
  exact this
 have hnb : (f.blocks.getD b default).preds.length ≤ 1000000 := HN.out.prs b hbl
 have e0 := ints_cell HN2.out.bb (show i < blk.length by rw [HN.out.st.l1]; exact hi)
 rw [hbi] at e0
 have lgb := HN2.out.bb.lt
 obtain ⟨bk, ok, B1, d1, B2, d2, B3, d3, B4, d4, hAb, hSb, y0, y1, y2, y3, -, -, -, -⟩ := rd_bk HC2.out.fn.blocks hbl
 subst hAb
 have lbk := (HC2.out.lt bk hSb).1
 have c6 : w2.cell? ⟨gc, 6, none⟩ = some (.slice (some ⟨bk, ok, none⟩) f.blocks.length cb) := HC2.out.blk.cell 6
 have c8 : w2.cell? ⟨gc, 8, none⟩ = some (.slice (some ⟨gb, 0, none⟩) f.nodes.length f.nodes.length) := HC2.out.blk.cell 8
 have lgc2 := HC2.out.blk.lt
 have b0 : (0 : Int) ≤ b := by omega
 have b1 : (b : Int) < f.blocks.length := by omega
 clear hbi y0 y1 y2 mth0 mth1
 generalize f.blocks.getD b default = xb at *
 generalize xb.preds.length = n at *
 have HF := Lib.hid hF
 clear hF
 have T3 := Blk.new w2 172 #[.string kd, .string ⟨#[]⟩, .bool false, .bool false, .bool false, .bool false]
 have R3 := R2.alloc (.cells #[.string kd, .string ⟨#[]⟩, .bool false, .bool false, .bool false, .bool false] 172)
 have X3 := X2.alloc (.cells #[.string kd, .string ⟨#[]⟩, .bool false, .bool false, .bool false, .bool false] 172)
 have hb3 := hb2.alloc hb2.size (.cells #[.string kd, .string ⟨#[]⟩, .bool false, .bool false, .bool false, .bool false] 172)
 have e03 := (World.cell?_alloc_lt w2 (.cells #[.string kd, .string ⟨#[]⟩, .bool false, .bool false, .bool false, .bool false] 172) ⟨gb, i, none⟩ lgb).trans e0
 have y33 := (World.cell?_alloc_lt w2 (.cells #[.string kd, .string ⟨#[]⟩, .bool false, .bool false, .bool false, .bool false] 172) ⟨bk, ok + b * 4 + 3, none⟩ lbk).trans y3
 have c63 := (World.cell?_alloc_lt w2 (.cells #[.string kd, .string ⟨#[]⟩, .bool false, .bool false, .bool false, .bool false] 172) ⟨gc, 6, none⟩ lgc2).trans c6
 have c83 := (World.cell?_alloc_lt w2 (.cells #[.string kd, .string ⟨#[]⟩, .bool false, .bool false, .bool false, .bool false] 172) ⟨gc, 8, none⟩ lgc2).trans c8
 have lgb3 : gb < (w2.alloc (.cells #[.string kd, .string ⟨#[]⟩, .bool false, .bool false, .bool false, .bool false] 172)).heap.size := by simp; omega
 have lbk3 : bk < (w2.alloc (.cells #[.string kd, .string ⟨#[]⟩, .bool false, .bool false, .bool false, .bool false] 172)).heap.size := by simp; omega
 have lgc3 : gc < (w2.alloc (.cells #[.string kd, .string ⟨#[]⟩, .bool false, .bool false, .bool false, .bool false] 172)).heap.size := by simp; omega
 go_upto_region 56 with (fail)
 obtain ⟨g4, hg4⟩ : ∃ g4, g4 = w2.heap.size := ⟨_, rfl⟩
 rw [← hg4] at T3 lX2 ⊢
 clear hg4 R2 X2 hb2 e0 y3 c6 c8 x0 x1 x2 x4 x5 lgb lbk lgc2 lR2
 generalize w2.alloc (.cells #[.string kd, .string ⟨#[]⟩, .bool false, .bool false, .bool false, .bool false] 172) = w3 at *
 go_quiet (fail)
 rename Nat => q
 have Z0 : Hid (Blk (w3.drewN q) g4 172 #[.string kd, .string (repB kd 0), .bool false, .bool false, .bool false, .bool false] ∧ Blk (w3.drewN q) w.heap.size 172 #[.string ⟨#[]⟩, .string ⟨#[]⟩, .bool false, .bool false, .bool false, .bool false] ∧ Blk (w3.drewN q) (w.heap.size + 1) 59 #[.int .i64 41, .int .i64 xa, .int .i64 xb_, .int .i64 st, .string kd, .int .i64 xn, .slice A1 args.length c1n] ∧ Below w.heap.size w (w3.drewN q)) := Lib.hid ⟨T3, R3, X3, below_drewN hb3 q⟩
 clear T3 R3 X3 hb3 e03 y33 c63 c83 lgb3 lbk3 lgc3
 go_wp2
 go_loopw [213] (fun jv wx => ∃ k : Nat, k ≤ n ∧ jv = .int .i64 k ∧ Hid (Blk wx g4 172 #[.string kd, .string (repB kd k), .bool false, .bool false, .bool false, .bool false] ∧ Blk wx w.heap.size 172 #[.string ⟨#[]⟩, .string ⟨#[]⟩, .bool false, .bool false, .bool false, .bool false] ∧ Blk wx (w.heap.size + 1) 59 #[.int .i64 41, .int .i64 xa, .int .i64 xb_, .int .i64 st, .string kd, .int .i64 xn, .slice A1 args.length c1n] ∧ Below w.heap.size w wx)) (fun jv _ => n - (intOf jv).toNat)
 case atStart => exact ⟨0, Nat.zero_le _, rfl, Z0⟩
 case round =>
  clear Z0
  obtain ⟨k, hk, rfl, Z⟩ := hrel
  obtain ⟨TT, RR, XX, hb⟩ := Z.out
  have lT := TT.lt
  have lX := XX.lt
  have lR := RR.lt
  have t1 := TT.at1
  have u1 := TT.frozen 1
  have xx4 : wr.cell? ⟨w.heap.size + 1, 4, none⟩ = some (.string kd) := XX.cell 4
  by_cases hkn : k < n
  · have k0 : (0 : Int) ≤ k := by omega
    have k1 : (k : Int) < n := by omega
    have hrs := repB_size kd k
    have hsz : ¬ 9223372036854775807 < (repB kd k).size + kd.size := by
     have : k * kd.size ≤ 1000000 * 1000000 := Nat.mul_le_mul (by omega) hkd
     omega
    have HZ := Lib.hid (show Blk (wr.setCell ⟨g4, 1, none⟩ (.string (repB kd k ++ kd))) g4 172 #[.string kd, .string (repB kd (k + 1)), .bool false, .bool false, .bool false, .bool false] ∧ Blk (wr.setCell ⟨g4, 1, none⟩ (.string (repB kd k ++ kd))) w.heap.size 172 #[.string ⟨#[]⟩, .string ⟨#[]⟩, .bool false, .bool false, .bool false, .bool false] ∧ Blk (wr.setCell ⟨g4, 1, none⟩ (.string (repB kd k ++ kd))) (w.heap.size + 1) 59 #[.int .i64 41, .int .i64 xa, .int .i64 xb_, .int .i64 st, .string kd, .int .i64 xn, .slice A1 args.length c1n] ∧ Below w.heap.size w (wr.setCell ⟨g4, 1, none⟩ (.string (repB kd k ++ kd))) by
     refine ⟨?_, RR.far (p := ⟨g4, 1, none⟩) (by show w.heap.size ≠ g4; omega) _, XX.far (p := ⟨g4, 1, none⟩) (by show w.heap.size + 1 ≠ g4; omega) _, hb.setCell (p := ⟨g4, 1, none⟩) (by show w.heap.size ≤ g4; omega) _⟩
     have := TT.set_ 1 (.string (repB kd k ++ kd))
     simpa [repB] using this)
    clear TT RR XX hb hrs hkd
    generalize repB kd k = rk at *
    go_wp2
    go_roundw
    case rel => exact ⟨k + 1, by omega, by go_num, HZ⟩
    case measure => simp [intOf]; omega
  · obtain rfl : k = n := by omega
    have hge : ¬ (k : Int) < k := by omega
    have t0 := TT.at0
    have t2 := TT.at2
    have t3 := TT.at3
    have t4 : wr.cell? ⟨g4, 4, none⟩ = some (.bool false) := TT.cell 4
    have t5 : wr.cell? ⟨g4, 5, none⟩ = some (.bool false) := TT.cell 5
    clear hkn u1
    generalize hrk : repB kd k = rk at *
    have Hrk := Lib.hid hrk
    clear hrk
    go_upto_region 60 with (fail)
    refine wpJ_start (S := fun W => W.cell? ⟨g4, 0, none⟩ = some (.string kd) ∧ W.cell? ⟨g4, 1, none⟩ = some (.string rk) ∧ W.cell? ⟨g4, 2, none⟩ = some (.bool false) ∧ W.cell? ⟨g4, 3, none⟩ = some (.bool false) ∧ W.cell? ⟨g4, 4, none⟩ = some (.bool false) ∧ W.cell? ⟨g4, 5, none⟩ = some (.bool false) ∧ W.cell? ⟨w.heap.size + 1, 4, none⟩ = some (.string kd)) (fun _ => true) (by kernel_rfl) ⟨t0, t1, t2, t3, t4, t5, xx4⟩ (fun HS => ?_)
    have R4 : Blk wr.drew w.heap.size 172 _ := RR
    have hb4 : Below w.heap.size w wr.drew := hb.drew
    clear t0 t1 t2 t3 t4 t5 xx4 TT RR XX hb lT lX lR
    generalize wr.drew = w4 at *
    refine takeQ 0 222 rfl HS (.inl ⟨rfl, fun W hW => by obtain ⟨h0, h1, h2, h3, h4, h5, h6⟩ := hW; go_simp; rfl⟩) ?_
    simp only [pS]
    refine takeQ 1 223 rfl HS (.inl ⟨rfl, fun W hW => by obtain ⟨h0, h1, h2, h3, h4, h5, h6⟩ := hW; go_simp; rfl⟩) ?_
    simp only [pS]
    refine takeQ 2 224 rfl HS (.inl ⟨rfl, fun W hW => by obtain ⟨h0, h1, h2, h3, h4, h5, h6⟩ := hW; go_simp; rfl⟩) ?_
    simp only [pS]
    by_cases e1 : kd = ⟨#[73]⟩
    · subst e1
      have Hf := Lib.hid (show formF p f blk i = some ⟨⟨#[73]⟩, rk, false, false, false, false⟩ by rw [HF.out, if_pos (.inl rfl), ← Hrk.out])
      refine takeQ 3 225 rfl HS (.inl ⟨rfl, fun W hW => by obtain ⟨h0, h1, h2, h3, h4, h5, h6⟩ := hW; go_simp; rfl⟩) ?_
      simp only [pS]
      refine takeQ 4 226 rfl HS (.inl ⟨rfl, fun W hW => by obtain ⟨h0, h1, h2, h3, h4, h5, h6⟩ := hW; go_simp; rfl⟩) ?_
      simp only [pS]
      refine takeQ (v := undef) 5 227 rfl HS (.inr ⟨by rfl, rfl⟩) ?_
      simp only [pS]
      refine takeQ (v := undef) 6 228 rfl HS (.inr ⟨by rfl, rfl⟩) ?_
      simp only [pS]
      refine takeQ (v := undef) 7 229 rfl HS (.inr ⟨by rfl, rfl⟩) ?_
      simp only [pS]
      refine takeQ 8 230 rfl HS (.inl ⟨rfl, fun W hW => by obtain ⟨h0, h1, h2, h3, h4, h5, h6⟩ := hW; go_simp; rfl⟩) ?_
      simp only [pS]
      have r0 := R4.at0
      have r1 := R4.at1
      have r2 := R4.at2
      have r3 := R4.at3
      have r4 : w4.cell? ⟨w.heap.size, 4, none⟩ = some (.bool false) := R4.cell 4
      have r5 : w4.cell? ⟨w.heap.size, 5, none⟩ = some (.bool false) := R4.cell 5
      have f0 := R4.frozen 0
      have f1 := R4.frozen 1
      have f2 := R4.frozen 2
      have f3 := R4.frozen 3
      have f4 := R4.frozen 4
      have f5 := R4.frozen 5
      have lR4 := R4.lt
      refine stepQ 9 rfl (fun K HK => ?_)
      go_simp
      have R6 := R4.set6 (a := .string (⟨#[73]⟩)) (b := .string (rk)) (c := .bool false) (d := .bool false) (e := .bool false) (f := .bool false)
      have hb6 := below_set6 (a := .string (⟨#[73]⟩)) (b := .string (rk)) (c := .bool false) (d := .bool false) (e := .bool false) (f := .bool false) hb4 (Nat.le_refl w.heap.size)
      have K6 : KB (fun b => b ≠ w.heap.size) w4 (set6 w4 w.heap.size (.string (⟨#[73]⟩)) (.string (rk)) (.bool false) (.bool false) (.bool false) (.bool false)) := kb_set6
      have old6 := fun (q : Addr) (v : Value) (hq : q.block ≠ w.heap.size) (h : w4.cell? q = some v) => (World.cell?_of_block (K6 q.block hq)).trans h
      unfold set6 at R6 hb6 old6
      obtain ⟨s0, s1, s2, s3, s4, s5, s6⟩ := HS
      have HS6 := And.intro (old6 ⟨g4, 0, none⟩ _ (by show g4 ≠ w.heap.size; omega) s0) (And.intro (old6 ⟨g4, 1, none⟩ _ (by show g4 ≠ w.heap.size; omega) s1) (And.intro (old6 ⟨g4, 2, none⟩ _ (by show g4 ≠ w.heap.size; omega) s2) (And.intro (old6 ⟨g4, 3, none⟩ _ (by show g4 ≠ w.heap.size; omega) s3) (And.intro (old6 ⟨g4, 4, none⟩ _ (by show g4 ≠ w.heap.size; omega) s4) (And.intro (old6 ⟨g4, 5, none⟩ _ (by show g4 ≠ w.heap.size; omega) s5) (old6 ⟨w.heap.size + 1, 4, none⟩ _ (by show w.heap.size + 1 ≠ w.heap.size; omega) s6))))))
      clear K6 old6 s0 s1 s2 s3 s4 s5 s6
      refine HK.out _ _ (fun _ => HS6) ?_
      clear HK r0 r1 r2 r3 r4 r5 f0 f1 f2 f3 f4 f5 R4 hb4 lR4
      generalize (((((w4.setCell ⟨w.heap.size, 0, none⟩ (.string (⟨#[73]⟩))).setCell ⟨w.heap.size, 1, none⟩ (.string (rk))).setCell ⟨w.heap.size, 2, none⟩ (.bool false)).setCell ⟨w.heap.size, 3, none⟩ (.bool false)).setCell ⟨w.heap.size, 4, none⟩ (.bool false)).setCell ⟨w.heap.size, 5, none⟩ (.bool false) = w6 at *
      try simp only [pS]
      refine takeQ 10 5 rfl HS6 (.inl ⟨rfl, fun W hW => by obtain ⟨h0, h1, h2, h3, h4, h5, h6⟩ := hW; go_simp; rfl⟩) ?_
      simp only [pS]
      refine wpAnyJ_done (by kernel_rfl) ?_ _
      have q0 := R6.at0
      have q1 := R6.at1
      have q2 := R6.at2
      have q3 := R6.at3
      have q4 := R6.cell 4
      have q5 := R6.cell 5
      clear HS6
      go_wp2
      refine bodyPost_ret (v := .tuple #[formV ⟨⟨#[73]⟩, rk, false, false, false, false⟩, .bool true]) (by simp [results, Tryz.results94, go_sem, q0, q1, q2, q3, q4, q5, sE, sI, sR, sII, sRR, sRI]) rfl ?_
      exact HP.out ⟨⟨#[73]⟩, rk, false, false, false, false⟩ _ (some _) Hf.out hb6 (fun _ => rfl)
    · have g1 : (kd.toList == [73]) = false := by rw [← sI_list]; exact (str_eqb2 kd sI).trans (decide_eq_false e1)
      obtain ⟨bb, hbb⟩ : ∃ bb : Bool, (kd.toList == [82]) = bb := ⟨_, rfl⟩
      have Hf := Lib.hid (show formF p f blk i = if bb = true then some ⟨kd, rk, false, false, false, false⟩ else none by
       rw [HF.out, ← hbb, show (kd.toList == [82]) = decide (kd = sR) by rw [← sR_list]; exact str_eqb2 kd sR, ← Hrk.out]
       by_cases h1 : kd = sR
       · rw [if_pos (.inr h1), if_pos (by simpa using h1)]
       · rw [if_neg (show ¬ (kd = sI ∨ kd = sR) from not_or.2 ⟨e1, h1⟩), if_neg (by simpa using h1)])
      clear e1
      refine takeQ 3 225 rfl HS (.inl ⟨rfl, fun W hW => by obtain ⟨h0, h1, h2, h3, h4, h5, h6⟩ := hW; go_simp; rfl⟩) ?_
      simp only [pS]
      refine takeQ 4 226 rfl HS (.inl ⟨rfl, fun W hW => by obtain ⟨h0, h1, h2, h3, h4, h5, h6⟩ := hW; go_simp; rfl⟩) ?_
      simp only [pS]
      refine takeQ 5 227 rfl HS (.inl ⟨rfl, fun W hW => by obtain ⟨h0, h1, h2, h3, h4, h5, h6⟩ := hW; go_simp; rfl⟩) ?_
      simp only [pS]
      refine takeQ 6 228 rfl HS (.inl ⟨rfl, fun W hW => by obtain ⟨h0, h1, h2, h3, h4, h5, h6⟩ := hW; go_simp; rfl⟩) ?_
      simp only [pS]
      refine takeQ 7 229 rfl HS (.inl ⟨rfl, fun W hW => by obtain ⟨h0, h1, h2, h3, h4, h5, h6⟩ := hW; go_simp; rfl⟩) ?_
      simp only [pS]
      refine takeQ 8 230 rfl HS (.inl ⟨rfl, fun W hW => by obtain ⟨h0, h1, h2, h3, h4, h5, h6⟩ := hW; go_simp; rfl⟩) ?_
      simp only [pS]
      clear hbb g1
      have r0 := R4.at0
      have r1 := R4.at1
      have r2 := R4.at2
      have r3 := R4.at3
      have r4 : w4.cell? ⟨w.heap.size, 4, none⟩ = some (.bool false) := R4.cell 4
      have r5 : w4.cell? ⟨w.heap.size, 5, none⟩ = some (.bool false) := R4.cell 5
      have f0 := R4.frozen 0
      have f1 := R4.frozen 1
      have f2 := R4.frozen 2
      have f3 := R4.frozen 3
      have f4 := R4.frozen 4
      have f5 := R4.frozen 5
      have lR4 := R4.lt
      refine stepQ 9 rfl (fun K HK => ?_)
      go_simp
      have R6 := R4.set6 (a := .string (kd)) (b := .string (rk)) (c := .bool false) (d := .bool false) (e := .bool false) (f := .bool false)
      have hb6 := below_set6 (a := .string (kd)) (b := .string (rk)) (c := .bool false) (d := .bool false) (e := .bool false) (f := .bool false) hb4 (Nat.le_refl w.heap.size)
      have K6 : KB (fun b => b ≠ w.heap.size) w4 (set6 w4 w.heap.size (.string (kd)) (.string (rk)) (.bool false) (.bool false) (.bool false) (.bool false)) := kb_set6
      have old6 := fun (q : Addr) (v : Value) (hq : q.block ≠ w.heap.size) (h : w4.cell? q = some v) => (World.cell?_of_block (K6 q.block hq)).trans h
      unfold set6 at R6 hb6 old6
      obtain ⟨s0, s1, s2, s3, s4, s5, s6⟩ := HS
      have HS6 := And.intro (old6 ⟨g4, 0, none⟩ _ (by show g4 ≠ w.heap.size; omega) s0) (And.intro (old6 ⟨g4, 1, none⟩ _ (by show g4 ≠ w.heap.size; omega) s1) (And.intro (old6 ⟨g4, 2, none⟩ _ (by show g4 ≠ w.heap.size; omega) s2) (And.intro (old6 ⟨g4, 3, none⟩ _ (by show g4 ≠ w.heap.size; omega) s3) (And.intro (old6 ⟨g4, 4, none⟩ _ (by show g4 ≠ w.heap.size; omega) s4) (And.intro (old6 ⟨g4, 5, none⟩ _ (by show g4 ≠ w.heap.size; omega) s5) (old6 ⟨w.heap.size + 1, 4, none⟩ _ (by show w.heap.size + 1 ≠ w.heap.size; omega) s6))))))
      clear K6 old6 s0 s1 s2 s3 s4 s5 s6
      refine HK.out _ _ (fun _ => HS6) ?_
      clear HK r0 r1 r2 r3 r4 r5 f0 f1 f2 f3 f4 f5 R4 hb4 lR4
      generalize (((((w4.setCell ⟨w.heap.size, 0, none⟩ (.string (kd))).setCell ⟨w.heap.size, 1, none⟩ (.string (rk))).setCell ⟨w.heap.size, 2, none⟩ (.bool false)).setCell ⟨w.heap.size, 3, none⟩ (.bool false)).setCell ⟨w.heap.size, 4, none⟩ (.bool false)).setCell ⟨w.heap.size, 5, none⟩ (.bool false) = w6 at *
      try simp only [pS]
      refine takeQ 10 5 rfl HS6 (.inl ⟨rfl, fun W hW => by obtain ⟨h0, h1, h2, h3, h4, h5, h6⟩ := hW; go_simp; rfl⟩) ?_
      simp only [pS]
      refine wpAnyJ_done (by kernel_rfl) ?_ _
      have q0 := R6.at0
      have q1 := R6.at1
      have q2 := R6.at2
      have q3 := R6.at3
      have q4 := R6.cell 4
      have q5 := R6.cell 5
      clear HS6
      go_wp2
      refine bodyPost_ret (v := .tuple #[formV ⟨kd, rk, false, false, false, false⟩, .bool bb]) (by simp [results, Tryz.results94, go_sem, q0, q1, q2, q3, q4, q5, sE, sI, sR, sII, sRR, sRI]) rfl ?_
      cases bb with
      | true => exact HP.out ⟨kd, rk, false, false, false, false⟩ _ (some _) (Hf.out.trans (if_pos rfl)) hb6 (fun _ => rfl)
      | false => exact HP.out ⟨kd, rk, false, false, false, false⟩ _ none (Hf.out.trans (if_neg (by simp))) hb6 (fun h => (by cases h))
end Go.Proofs.YtjjmpfmhggcjiaaGreatDoor
