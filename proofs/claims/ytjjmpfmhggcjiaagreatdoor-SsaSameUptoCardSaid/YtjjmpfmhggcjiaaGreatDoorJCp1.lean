/-
 Cp1.
-/
import Derived.Test.YtjjmpfmhggcjiaaGreatDoorJSs7
import Derived.Test.YtjjmpfmhggcjiaaGreatDoorJRf4
import Derived.Test.YtjjmpfmhggcjiaaGreatDoorJCp0
import Derived.Test.YtjjmpfmhggcjiaaGreatDoorJLt
set_option linter.unusedSimpArgs false
set_option linter.unusedVariables false
namespace Go.Proofs.YtjjmpfmhggcjiaaGreatDoor
open Go.RowKit Go.Maps
theorem rds_none {w : World} {S : Nat → Prop} {size n : Nat} {A : Option Addr} {xs : List Value} (h : RdS w S size A n xs) (e : A = none) : n = 0 := by
 by_cases h0 : 0 < n
 · obtain ⟨b, off, e2, _⟩ := h.2 h0
   rw [e] at e2
   cases e2
 · omega
theorem ints_cell1 (l : List Int) : ∀ u ∈ ints l, u.oneCell' = true := fun u hu => by
 obtain ⟨x, _, rfl⟩ := List.mem_map.1 hu
 rfl
set_option maxRecDepth 100000 in
set_option maxHeartbeats 4000000 in
theorem clone_big (A : Option Addr) (n c : Nat) (xs : List Value) (w : World) (h : Rd w w.heap.size 1 A n xs) (h0 : A = none → n = 0) (hn : n ≤ 2000000) (h1 : ∀ u ∈ xs, u.oneCell' = true) :
 Calls Tryz.prog 51 #[.slice A n c] w (ClonePost w 3 1 n xs) := by
 have q : ∀ (w : World) (a : Option Addr) (n c n' c' : Nat), (binOp .eql 47 (.slice a n c) (.slice none n' c')).run Tryz.prog w = .ok (.bool a.isNone) w := fun w a n c n' c' => Lib.run_eql_slice_nil w _ _ a n c n' c' Tryz.underlying47
 cases A with
 | none =>
   obtain rfl := h0 rfl
   have hx : xs = [] := List.eq_nil_of_length_eq_zero (by simpa using h.1)
   go_enter Tryz.func51, Tryz.ntmps51
   go_wp2
   go_ret
   subst hx
   exact ⟨none, 0, rfl, World.ownsRow_nil _ _ _ _, Below.refl _ _⟩
 | some a =>
   obtain ⟨i0, hi, hz0, hz1, hz2⟩ := info_parts infoIntR
   have hsp : 0 < n → a.spot = none := fun hn0 => by
    obtain ⟨b, off, e, _⟩ := h.2 hn0
    cases e; rfl
   have hc : ∀ j u, xs[j]? = some u → w.cell? (a.add j) = some u := fun j u hu => by
    by_cases hn0 : 0 < n
    · obtain ⟨b, off, e, _, hcc⟩ := h.2 hn0
      cases e
      have := hcc j u hu
      rwa [show (⟨b, off, none⟩ : Addr).add j = ⟨b, off + j, none⟩ from Go.WideShapes.add_plain b off j]
    · have : xs.length = 0 := by have := h.1; omega
      have := (List.getElem?_eq_some_iff.1 hu).1
      omega
   have Hc := Lib.hid hc
   have Hl := Lib.hid h.1
   have H1 := Lib.hid h1
   clear hc h h1 hsp h0
   go_enter Tryz.func51, Tryz.ntmps51
   go_wp2_with (at_builtin
                refine wpList_append_own_at _ rfl _ _ 47 rfl w.heap.size 3 i0 _ 1 8 Tryz.underlying47 hi hz0 hz1 hz2 rfl (by decide) _ 0 [] rfl (World.ownsRow_made w #[] 0 (Nat.le_refl _) (Nat.zero_le _) rfl) a n c xs rfl Hl.out (fun j u hu => by first | exact Hc.out j u hu | (rw [World.cell?_alloc_lt]; exact Hc.out j u hu; exact World.block_lt_of_cell? w _ (Hc.out j u hu))) H1.out (by unfold maxLen; omega) (by omega) (by simp) ?_
                intro v' w1 hown hg _ _
                simp only [Nat.zero_add, List.nil_append] at hown
                obtain ⟨A', c', rfl⟩ := own_slice hown)
   go_ret
   exact ⟨A', c', rfl, hown, ((Below.refl w.heap.size w).alloc (Nat.le_refl _) _).grown hg (by simp) (fun k hk => by
    have e : some w.heap.size = some k := hk
    cases e
    exact Nat.le_refl _)⟩
theorem clone_at {S : Nat → Prop} {A : Option Addr} {c : Nat} {l : List Int} {w W : World} (h : RdS w S 1 A l.length (ints l)) (hS : ∀ b, S b → b < w.heap.size) (hl : l.length ≤ 2000000) (hW : Below w.heap.size w W) :
 Calls Tryz.prog 51 #[.slice A l.length c] W (ClonePost W 3 1 l.length (ints l)) :=
 clone_big A l.length c (ints l) W (((h.rd (B := w.heap.size) hS).below hW (Nat.le_refl _)).more hW.size) (rds_none h) hl (ints_cell1 l)
theorem rds_on {w w' : World} {base base' size n : Nat} {A : Option Addr} {xs : List Value} (h : RdS w (UIn base w) size A n xs) (hb : Below w.heap.size w w') (hz : base' ≤ base) : RdS w' (UIn base' w') size A n xs :=
 (h.keep (Kept.of_below hb (fun b h => h.2.1))).more (fun b h => (h.keep hb.size (hb.block b h.2.1)).base hz)
theorem infoVt : (Tryz.prog.info? 72).map (fun i => (i.zero, i.size, i.bytes)) = some (some (.agg #[.int .i64 0, .slice none 0 0]), 2, 32) := by kernel_rfl
def CopyPostF (w : World) (f : Fn) (e : Ending) (w' : World) : Prop :=
 ∃ An Ab As cn cb cs, e = .returned (fv An Ab As cn cb cs f) ∧ RdF w' (UIn w.heap.size w') An Ab As f ∧ Below w.heap.size w w'
set_option maxRecDepth 100000 in
set_option maxHeartbeats 8000000 in
theorem copyFn_any (An Ab As : Option Addr) (cn cb cs : Nat) (f : Fn) (w : World) (hF : RdF w (fun b => b < w.heap.size) An Ab As f) (hm : Mild f) (ln : f.nodes.length ≤ 2000000) (lb : f.blocks.length ≤ 2000000) (ls : f.states.length ≤ 2000000) :
 Calls Tryz.prog 24 #[fv An Ab As cn cb cs f] w (CopyPostF w f) := by
 have HP := Lib.hid (fun An' Ab' As' cn' cb' cs' w' (h1 : RdF w' (UIn w.heap.size w') An' Ab' As' f) (h2 : Below w.heap.size w w') => (show CopyPostF w f (.returned (fv An' Ab' As' cn' cb' cs' f)) w' from ⟨An', Ab', As', cn', cb', cs', rfl, h1, h2⟩))
 generalize CopyPostF w f = Post at *
 have HF := Lib.hid hF
 have HM := Lib.hid hm
 clear hF hm
 obtain ⟨gI, hgI⟩ : ∃ g, g = w.heap.size := ⟨_, rfl⟩
 have bI := ((Blk.new w 30 #[.int .i64 f.mth, .int .i64 f.entry, .slice An f.nodes.length cn, .slice Ab f.blocks.length cb, .slice As f.states.length cs]).alloc (.cells #[.int .i64 0, .int .i64 0, .slice none 0 0, .slice none 0 0, .slice none 0 0] 30)).alloc (.cells #[.int .i64 f.mth, .int .i64 f.entry, .slice none 0 0, .slice none 0 0, .slice none 0 0] 30)
 have bR := (Blk.newAt (w := w.alloc (.cells #[.int .i64 f.mth, .int .i64 f.entry, .slice An f.nodes.length cn, .slice Ab f.blocks.length cb, .slice As f.states.length cs] 30)) (g := w.heap.size + 1) (by simp) 30 #[.int .i64 0, .int .i64 0, .slice none 0 0, .slice none 0 0, .slice none 0 0]).alloc (.cells #[.int .i64 f.mth, .int .i64 f.entry, .slice none 0 0, .slice none 0 0, .slice none 0 0] 30)
 have bO := Blk.newAt (w := (w.alloc (.cells #[.int .i64 f.mth, .int .i64 f.entry, .slice An f.nodes.length cn, .slice Ab f.blocks.length cb, .slice As f.states.length cs] 30)).alloc (.cells #[.int .i64 0, .int .i64 0, .slice none 0 0, .slice none 0 0, .slice none 0 0] 30)) (g := w.heap.size + 1 + 1) (by simp) 30 #[.int .i64 f.mth, .int .i64 f.entry, .slice none 0 0, .slice none 0 0, .slice none 0 0]
 have hb := (((Below.refl w.heap.size w).alloc (Nat.le_refl _) (.cells #[.int .i64 f.mth, .int .i64 f.entry, .slice An f.nodes.length cn, .slice Ab f.blocks.length cb, .slice As f.states.length cs] 30)).alloc (by simp) (.cells #[.int .i64 0, .int .i64 0, .slice none 0 0, .slice none 0 0, .slice none 0 0] 30)).alloc (by simp; omega) (.cells #[.int .i64 f.mth, .int .i64 f.entry, .slice none 0 0, .slice none 0 0, .slice none 0 0] 30)
 have hz : (((w.alloc (.cells #[.int .i64 f.mth, .int .i64 f.entry, .slice An f.nodes.length cn, .slice Ab f.blocks.length cb, .slice As f.states.length cs] 30)).alloc (.cells #[.int .i64 0, .int .i64 0, .slice none 0 0, .slice none 0 0, .slice none 0 0] 30)).alloc (.cells #[.int .i64 f.mth, .int .i64 f.entry, .slice none 0 0, .slice none 0 0, .slice none 0 0] 30)).heap.size = w.heap.size + 3 := by simp
 go_enter Tryz.func24, Tryz.ntmps24
 go_upto_region 2 with (fail)
 generalize ((w.alloc (.cells #[.int .i64 f.mth, .int .i64 f.entry, .slice An f.nodes.length cn, .slice Ab f.blocks.length cb, .slice As f.states.length cs] 30)).alloc (.cells #[.int .i64 0, .int .i64 0, .slice none 0 0, .slice none 0 0, .slice none 0 0] 30)).alloc (.cells #[.int .i64 f.mth, .int .i64 f.entry, .slice none 0 0, .slice none 0 0, .slice none 0 0] 30) = w2 at *
 have y2 := bI.cell 2
 simp at y2
 have lI := bI.lt
 go_wp2
 have hz3 : w.heap.size + 3 ≤ w2.heap.size := by omega
 clear hz
 go_loopw [21] (fun iv wr => ∃ (k c : Nat) (A : Option Addr) (hs : List (Option Addr × Nat)), k ≤ f.nodes.length ∧ iv = .int .i64 k ∧ Hid (URow ndShape 59 wr (w.heap.size + 3) (f.nodes.take k) hs A c) ∧ Blk wr (w.heap.size + 1 + 1) 30 #[.int .i64 f.mth, .int .i64 f.entry, .slice A k c, .slice none 0 0, .slice none 0 0] ∧ Blk wr (w.heap.size + 1) 30 #[.int .i64 0, .int .i64 0, .slice none 0 0, .slice none 0 0, .slice none 0 0] ∧ Blk wr w.heap.size 30 #[.int .i64 f.mth, .int .i64 f.entry, .slice An f.nodes.length cn, .slice Ab f.blocks.length cb, .slice As f.states.length cs] ∧ Hid (w.heap.size + 3 ≤ wr.heap.size) ∧ Below w.heap.size w wr) (fun iv _ => f.nodes.length - (intOf iv).toNat)
 case atStart => exact ⟨0, 0, none, [], Nat.zero_le _, rfl, Lib.hid (URow.nil _ _ _ _), bO, bR, bI, Lib.hid hz3, hb⟩
 case round =>
  clear bI bR bO hb hz3 y2 lI
  obtain ⟨k, c, A, hs, hk, rfl, HU, bO, bR, bI, HZ, hb⟩ := hrel
  by_cases hlt : k < f.nodes.length
  · have k0 : (0 : Int) ≤ k := by omega
    have k1 : (k : Int) < f.nodes.length := by omega
    obtain ⟨b, off, A1, c1, rfl, hbb, x0, x1, x2, x3, x4, x5, x6, r1⟩ := rd_nd (HF.out.nodes.below hb (fun _ h => h)) hlt
    have hal := HM.out.args k
    have Htk := Lib.hid (show f.nodes.take (k + 1) = f.nodes.take k ++ [f.nodes.getD k default] by rw [List.take_succ_eq_append_getElem hlt]; simp [hlt])
    have Hlen := Lib.hid (show (f.nodes.take k).length = k by rw [List.length_take]; omega)
    generalize f.nodes.getD k default = x at *
    have hsz := hb.size
    -- dev<
    go_upto_region 5 with (fail)
    have bX := Blk.new wr 59 #[.int .i64 x.op, .int .i64 x.a, .int .i64 x.b, .int .i64 x.st, .string x.kind, .int .i64 x.n, .slice A1 x.args.length c1]
    have hB1 := (Below.refl wr.heap.size wr).alloc (Nat.le_refl _) (.cells #[.int .i64 x.op, .int .i64 x.a, .int .i64 x.b, .int .i64 x.st, .string x.kind, .int .i64 x.n, .slice A1 x.args.length c1] 59)
    have hz1 : (wr.alloc (.cells #[.int .i64 x.op, .int .i64 x.a, .int .i64 x.b, .int .i64 x.st, .string x.kind, .int .i64 x.n, .slice A1 x.args.length c1] 59)).heap.size = wr.heap.size + 1 := by simp
    have r1 := r1.keep (Kept.alloc (Kept.refl _ _) (fun b h => Nat.lt_of_lt_of_le h hsz) (.cells #[.int .i64 x.op, .int .i64 x.a, .int .i64 x.b, .int .i64 x.st, .string x.kind, .int .i64 x.n, .slice A1 x.args.length c1] 59))
    generalize wr.alloc (.cells #[.int .i64 x.op, .int .i64 x.a, .int .i64 x.b, .int .i64 x.st, .string x.kind, .int .i64 x.n, .slice A1 x.args.length c1] 59) = w3 at *
    have HC := Lib.hid (clone_at (c := c1) r1 (fun b h => by omega) hal (Below.refl w3.heap.size w3))
    have x6 := bX.cell 6
    simp at x6
    clear r1 x0 x1 x2 x3 x4 x5
    have HZ1 := Lib.hid hz1
    clear hz1
    go_wp2_with fail
    refine HC.out.mono ?_
    rintro e w4 ⟨A2, c2, rfl, own2, hb34⟩
    have bX := bX.below hb34 bX.lt
    have hB4 := hB1.trans (hb34.mono hB1.size)
    clear HC x6
    have z6 := bX.cell 6
    simp at z6
    have zf := bX.frozen 6
    have zl := bX.lt
    go_upto_region 6 with (fail)
    have bX := bX.set_ 6 (.slice A2 x.args.length c2)
    simp at bX
    have hB5 := hB4.setCell (p := ⟨wr.heap.size, 6, none⟩) (Nat.le_refl _) (.slice A2 x.args.length c2)
    have K5 := (KB.refl (fun b => w3.heap.size ≤ b ∧ b < w4.heap.size) w4).set (p := ⟨wr.heap.size, 6, none⟩) (fun h => by have := HZ1.out; have := h.1; simp at this; omega) (.slice A2 x.args.length c2)
    have hz5 : (w4.setCell ⟨wr.heap.size, 6, none⟩ (.slice A2 x.args.length c2)).heap.size = w4.heap.size := by simp
    generalize w4.setCell ⟨wr.heap.size, 6, none⟩ (.slice A2 x.args.length c2) = w5 at *
    have HZ5 := Lib.hid hz5
    clear hz5 z6 zf zl
    have hB6 := hB5.alloc hB5.size (.cells #[.int .i64 x.op, .int .i64 x.a, .int .i64 x.b, .int .i64 x.st, .string x.kind, .int .i64 x.n, .slice A2 x.args.length c2] 59)
    have K6 := K5.alloc (fun b h => by have := HZ5.out; omega) (.cells #[.int .i64 x.op, .int .i64 x.a, .int .i64 x.b, .int .i64 x.st, .string x.kind, .int .i64 x.n, .slice A2 x.args.length c2] 59)
    have bO6 := bO.below hB6 bO.lt
    have bR6 := bR.below hB6 bR.lt
    have bI6 := bI.below hB6 bI.lt
    have HU6 := Lib.hid (HU.out.below hB6)
    have hz6 : (w5.alloc (.cells #[.int .i64 x.op, .int .i64 x.a, .int .i64 x.b, .int .i64 x.st, .string x.kind, .int .i64 x.n, .slice A2 x.args.length c2] 59)).heap.size = w5.heap.size + 1 := by simp
    have HI6 := Lib.hid (show ndShape.inner (fun b => UIn (w.heap.size + 3) (w5.alloc (.cells #[.int .i64 x.op, .int .i64 x.a, .int .i64 x.b, .int .i64 x.st, .string x.kind, .int .i64 x.n, .slice A2 x.args.length c2] 59)) b ∧ A.map (·.block) ≠ some b) (w5.alloc (.cells #[.int .i64 x.op, .int .i64 x.a, .int .i64 x.b, .int .i64 x.st, .string x.kind, .int .i64 x.n, .slice A2 x.args.length c2] 59)) x (A2, c2) from
     ((rds_free own2).keep (K6.kept.sub (fun b h => ⟨h.1, h.2.1⟩))).more (fun b h => HU.out.apart hB6 (((h.keep (by have := HZ5.out; omega) (K6 b ⟨h.1, h.2.1⟩)).base (by have := HZ1.out; omega))) HZ.out))
    have HZ6 := Lib.hid hz6
    clear hz6 own2
    have own6 : (w5.alloc (.cells #[.int .i64 x.op, .int .i64 x.a, .int .i64 x.b, .int .i64 x.st, .string x.kind, .int .i64 x.n, .slice A2 x.args.length c2] 59)).ownsRow (w.heap.size + 3) 59 7 (.slice A k c) k (ndShape.cells (f.nodes.take k) hs) := by
     have h := HU6.out.own
     rw [Hlen.out] at h
     exact h
    have nO : (Value.slice A k c).ownBlock ≠ some (w.heap.size + 1 + 1) ∧ (Value.slice A k c).ownBlock ≠ some (w.heap.size + 1) ∧ (Value.slice A k c).ownBlock ≠ some w.heap.size := by
     refine ⟨fun e => ?_, fun e => ?_, fun e => ?_⟩ <;> have := (own6.lt _ e).1 <;> omega
    have bO5 := bO.below hB5 bO.lt
    have y2 := bO5.cell 2
    simp at y2
    have lO := bO5.lt
    have s0 := bX.cell 0
    have s1 := bX.cell 1
    have s2 := bX.cell 2
    have s3 := bX.cell 3
    have s4 := bX.cell 4
    have s5 := bX.cell 5
    have s6 := bX.cell 6
    simp at s0 s1 s2 s3 s4 s5 s6
    have lX := bX.lt
    have hz3 : w.heap.size + 3 ≤ w5.heap.size := by have := HZ.out; have := hB5.size; omega
    clear bO5
    go_wp2_with (at_builtin
                 refine wpList_append_row rfl (.tmp 30) (.tmp 32) 26 rfl (w.heap.size + 3) 59 _ 7 80 Tryz.underlying26 infoNd rfl (by omega) A c k (ndShape.cells (f.nodes.take k) hs) rfl own6 w5.heap.size 1 1 59 [.int .i64 x.op, .int .i64 x.a, .int .i64 x.b, .int .i64 x.st, .string x.kind, .int .i64 x.n, .slice A2 x.args.length c2] rfl (Blk.new _ _ _) rfl (by intro u hu; simp at hu; rcases hu with rfl | rfl | rfl | rfl | rfl | rfl | rfl <;> rfl) (by unfold maxLen; omega) (by omega) (by simp; omega) ?_
                 intro A3 c3 w7 own3 hg3 hat3
                 have bO7 := bO6.grown hg3 (Ne.symm nO.1)
                 have z2 := bO7.cell 2
                 simp at z2
                 have zf := bO7.frozen 2
                 have zl := bO7.lt)
    have HU7 := HU6.out.snoc (w3 := w7) (A3 := A3) (c3 := c3) x (A2, c2) HI6.out (by rw [Hlen.out]; exact own3) (by rw [Hlen.out]; exact hg3) (by rw [Hlen.out]; exact hat3)
    have HU8 := HU7.kb (w' := w7.setCell ⟨w.heap.size + 1 + 1, 2, none⟩ (.slice A3 (k + 1) c3)) ((KB.refl _ _).set (p := ⟨w.heap.size + 1 + 1, 2, none⟩) (fun h => by have := h.1; simp at this; omega) _) (by simp)
    rw [← Htk.out] at HU8
    have bO8 := bO7.set_ 2 (.slice A3 (k + 1) c3)
    simp at bO8
    have bR8 := (bR6.grown hg3 (Ne.symm nO.2.1)).far (p := ⟨w.heap.size + 1 + 1, 2, none⟩) (by show w.heap.size + 1 ≠ w.heap.size + 1 + 1; omega) (.slice A3 (k + 1) c3)
    have bI8 := (bI6.grown hg3 (Ne.symm nO.2.2)).far (p := ⟨w.heap.size + 1 + 1, 2, none⟩) (by show w.heap.size ≠ w.heap.size + 1 + 1; omega) (.slice A3 (k + 1) c3)
    have hb8 := (((hb.trans (hB6.mono hsz)).grown hg3 (by have := HZ6.out; omega) (fun j hj => by have := (own6.lt j hj).1; omega)).setCell (p := ⟨w.heap.size + 1 + 1, 2, none⟩) (by show w.heap.size ≤ w.heap.size + 1 + 1; omega) (.slice A3 (k + 1) c3))
    have hz8 := hg3.size
    have HZ8 := Lib.hid (show w.heap.size + 3 ≤ (w7.setCell ⟨w.heap.size + 1 + 1, 2, none⟩ (.slice A3 (k + 1) c3)).heap.size by simp; have := HZ6.out; omega)
    have HU9 := Lib.hid HU8
    clear HU7 HU8 hz8 own3 hg3 hat3 bO7 z2 zf zl s0 s1 s2 s3 s4 s5 s6 y2 lX lO bX own6 HU6 HU HI6 bO bR bI bO6 bR6 bI6 hb hB1 hB4 hB5 hB6 K5 K6 hb34
    go_wp2
    go_roundw
    case rel => exact ⟨k + 1, c3, A3, _, by omega, by go_num, HU9, bO8, bR8, bI8, HZ8, hb8⟩
    case measure => simp [intOf]; omega
    -- dev>
  · have e : f.nodes.length = k := by omega
    obtain ⟨wn, HN, HKn, HZn⟩ : ∃ wn : World, Hid (RdL ndShape wn (UIn (w.heap.size + 3) wn) A f.nodes) ∧ Hid (KB (fun b => w.heap.size + 3 ≤ b ∧ b < wn.heap.size) wn wr) ∧ Hid (wn.heap.size ≤ wr.heap.size ∧ w.heap.size + 3 ≤ wn.heap.size) :=
     ⟨wr, Lib.hid (by have h := HU.out.rd; rw [List.take_of_length_le (by omega)] at h; exact h), Lib.hid (KB.refl _ _), Lib.hid ⟨Nat.le_refl _, HZ.out⟩⟩
    have HUb := Lib.hid (show URow bkShape 61 wr wn.heap.size (f.blocks.take 0) [] none 0 from URow.nil _ _ _ _)
    clear HU HZ hlt
    have hge : ¬ (k : Int) < f.nodes.length := by omega
    rw [← e] at bO
    have He := Lib.hid e
    clear e
    have y3 := bI.cell 3
    simp at y3
    have lI := bI.lt
    go_wp2
    clear y3 lI hge
    go_loopw [39] (fun iv wr => ∃ (j cB : Nat) (B : Option Addr) (hs : List H4), j ≤ f.blocks.length ∧ iv = .int .i64 j ∧ Hid (URow bkShape 61 wr wn.heap.size (f.blocks.take j) hs B cB) ∧ Blk wr (w.heap.size + 1 + 1) 30 #[.int .i64 f.mth, .int .i64 f.entry, .slice A f.nodes.length c, .slice B j cB, .slice none 0 0] ∧ Blk wr (w.heap.size + 1) 30 #[.int .i64 0, .int .i64 0, .slice none 0 0, .slice none 0 0, .slice none 0 0] ∧ Blk wr w.heap.size 30 #[.int .i64 f.mth, .int .i64 f.entry, .slice An f.nodes.length cn, .slice Ab f.blocks.length cb, .slice As f.states.length cs] ∧ Hid (KB (fun b => w.heap.size + 3 ≤ b ∧ b < wn.heap.size) wn wr) ∧ Hid (wn.heap.size ≤ wr.heap.size ∧ w.heap.size + 3 ≤ wn.heap.size) ∧ Below w.heap.size w wr) (fun iv _ => f.blocks.length - (intOf iv).toNat)
    case atStart => exact ⟨0, 0, none, [], Nat.zero_le _, rfl, HUb, bO, bR, bI, HKn, HZn, hb⟩
    case round =>
     clear bI bR bO hb HUb HKn HZn
     obtain ⟨j, cB, B, hs, hj, rfl, HU, bO, bR, bI, HKn, HZn, hb⟩ := hrel
     by_cases hlt : j < f.blocks.length
     · have k0 : (0 : Int) ≤ j := by omega
       have k1 : (j : Int) < f.blocks.length := by omega
       obtain ⟨b, off, A1, c1, A2, c2, A3, c3, A4, c4, rfl, hbb, x0, x1, x2, x3, r1, r2, r3, r4⟩ := rd_bk (HF.out.blocks.below hb (fun _ h => h)) hlt
       have ha1 := HM.out.phis j
       have ha2 := HM.out.body j
       have ha3 := HM.out.succ j
       have ha4 := HM.out.preds j
       have Htk := Lib.hid (show f.blocks.take (j + 1) = f.blocks.take j ++ [f.blocks.getD j default] by rw [List.take_succ_eq_append_getElem hlt]; simp [hlt])
       have Hlen := Lib.hid (show (f.blocks.take j).length = j by rw [List.length_take]; omega)
       generalize f.blocks.getD j default = x at *
       have hsz := hb.size
       -- dev<
       go_upto_region 11 with (fail)
       have bX := Blk.new wr 61 #[.slice A1 x.phis.length c1, .slice A2 x.body.length c2, .slice A3 x.succ.length c3, .slice A4 x.preds.length c4]
       have hB1 := (Below.refl wr.heap.size wr).alloc (Nat.le_refl _) (.cells #[.slice A1 x.phis.length c1, .slice A2 x.body.length c2, .slice A3 x.succ.length c3, .slice A4 x.preds.length c4] 61)
       have HZ1 := Lib.hid (show (wr.alloc (.cells #[.slice A1 x.phis.length c1, .slice A2 x.body.length c2, .slice A3 x.succ.length c3, .slice A4 x.preds.length c4] 61)).heap.size = wr.heap.size + 1 by simp)
       have bO1 := bO.below hB1 bO.lt
       have hb1 := hb.trans (hB1.mono hsz)
       have HC1 := Lib.hid (fun W hW => clone_at (c := c1) (W := W) (r1.keep (Kept.of_below hB1 (fun b h => Nat.lt_of_lt_of_le h hsz))) (fun b h => Nat.lt_of_lt_of_le h hb1.size) ha1 hW)
       have HC2 := Lib.hid (fun W hW => clone_at (c := c2) (W := W) (r2.keep (Kept.of_below hB1 (fun b h => Nat.lt_of_lt_of_le h hsz))) (fun b h => Nat.lt_of_lt_of_le h hb1.size) ha2 hW)
       have HC3 := Lib.hid (fun W hW => clone_at (c := c3) (W := W) (r3.keep (Kept.of_below hB1 (fun b h => Nat.lt_of_lt_of_le h hsz))) (fun b h => Nat.lt_of_lt_of_le h hb1.size) ha3 hW)
       have HC4 := Lib.hid (fun W hW => clone_at (c := c4) (W := W) (r4.keep (Kept.of_below hB1 (fun b h => Nat.lt_of_lt_of_le h hsz))) (fun b h => Nat.lt_of_lt_of_le h hb1.size) ha4 hW)
       clear r1 r2 r3 r4 x0 x1 x2 x3
       generalize wr.alloc (.cells #[.slice A1 x.phis.length c1, .slice A2 x.body.length c2, .slice A3 x.succ.length c3, .slice A4 x.preds.length c4] 61) = w3 at *
       have HS : (fun W : World => W.cell? ⟨w.heap.size + 1 + 1, 3, none⟩ = some (.slice B j cB) ∧ W.cell? ⟨wr.heap.size, 0, none⟩ = some (.slice A1 x.phis.length c1) ∧ W.cell? ⟨wr.heap.size, 1, none⟩ = some (.slice A2 x.body.length c2) ∧ W.cell? ⟨wr.heap.size, 2, none⟩ = some (.slice A3 x.succ.length c3) ∧ W.cell? ⟨wr.heap.size, 3, none⟩ = some (.slice A4 x.preds.length c4)) w3.drew := ⟨bO1.at3, bX.at0, bX.at1, bX.at2, bX.at3⟩
       refine wpJ_start (S := fun W : World => W.cell? ⟨w.heap.size + 1 + 1, 3, none⟩ = some (.slice B j cB) ∧ W.cell? ⟨wr.heap.size, 0, none⟩ = some (.slice A1 x.phis.length c1) ∧ W.cell? ⟨wr.heap.size, 1, none⟩ = some (.slice A2 x.body.length c2) ∧ W.cell? ⟨wr.heap.size, 2, none⟩ = some (.slice A3 x.succ.length c3) ∧ W.cell? ⟨wr.heap.size, 3, none⟩ = some (.slice A4 x.preds.length c4)) (fun q => decide (q ≤ 17)) (by kernel_rfl) HS (fun HS => ?_)
       refine takeQ 0 43 rfl HS (.inl ⟨rfl, fun W hW => by obtain ⟨q0, q1, q2, q3, q4⟩ := hW; go_simp; rfl⟩) ?_
       simp only [pS]
       refine takeQ 1 44 rfl HS (.inl ⟨rfl, fun W hW => by obtain ⟨q0, q1, q2, q3, q4⟩ := hW; go_simp; rfl⟩) ?_
       simp only [pS]
       refine takeQ 2 45 rfl HS (.inl ⟨rfl, fun W hW => by obtain ⟨q0, q1, q2, q3, q4⟩ := hW; go_simp; rfl⟩) ?_
       simp only [pS]
       refine takeQ 3 46 rfl HS (.inl ⟨rfl, fun W hW => by obtain ⟨q0, q1, q2, q3, q4⟩ := hW; go_simp; rfl⟩) ?_
       simp only [pS]
       refine takeQ 5 48 rfl HS (.inl ⟨rfl, fun W hW => by obtain ⟨q0, q1, q2, q3, q4⟩ := hW; go_simp; rfl⟩) ?_
       simp only [pS]
       refine takeQ 6 49 rfl HS (.inl ⟨rfl, fun W hW => by obtain ⟨q0, q1, q2, q3, q4⟩ := hW; go_simp; rfl⟩) ?_
       simp only [pS]
       refine takeQ 8 51 rfl HS (.inl ⟨rfl, fun W hW => by obtain ⟨q0, q1, q2, q3, q4⟩ := hW; go_simp; rfl⟩) ?_
       simp only [pS]
       refine takeQ 9 52 rfl HS (.inl ⟨rfl, fun W hW => by obtain ⟨q0, q1, q2, q3, q4⟩ := hW; go_simp; rfl⟩) ?_
       simp only [pS]
       refine takeQ 11 54 rfl HS (.inl ⟨rfl, fun W hW => by obtain ⟨q0, q1, q2, q3, q4⟩ := hW; go_simp; rfl⟩) ?_
       simp only [pS]
       refine takeQ 12 55 rfl HS (.inl ⟨rfl, fun W hW => by obtain ⟨q0, q1, q2, q3, q4⟩ := hW; go_simp; rfl⟩) ?_
       simp only [pS]
       have hB := (Below.refl w3.heap.size w3).drew
       have bO : Blk w3.drew _ _ _ := bO1
       have bX : Blk w3.drew _ _ _ := bX
       clear HS
       refine stepQ 4 rfl (fun K HK => ?_)
       go_simp
       refine (HC1.out _ hB).mono ?_
       rintro e u1 ⟨D1, d1, rfl, own1, hbn⟩
       have a1 := rds_on (rds_free own1) (Below.refl _ _) (show w3.heap.size ≤ _ from hB.size)
       have hB := hB.trans (hbn.mono hB.size)
       have bO := bO.below hbn bO.lt
       have bX := bX.below hbn bX.lt
       refine HK.out _ _ (fun _ => ⟨bO.at3, bX.at0, bX.at1, bX.at2, bX.at3⟩) ?_
       clear HK own1 hbn HC1
       try simp only [pS]
       refine stepQ 7 rfl (fun K HK => ?_)
       go_simp
       refine (HC2.out _ hB).mono ?_
       rintro e u2 ⟨D2, d2, rfl, own2, hbn⟩
       have a2 := rds_on (rds_free own2) (Below.refl _ _) (show w3.heap.size ≤ _ from hB.size)
       have a1 := rds_on a1 hbn (Nat.le_refl _)
       have hB := hB.trans (hbn.mono hB.size)
       have bO := bO.below hbn bO.lt
       have bX := bX.below hbn bX.lt
       refine HK.out _ _ (fun _ => ⟨bO.at3, bX.at0, bX.at1, bX.at2, bX.at3⟩) ?_
       clear HK own2 hbn HC2
       try simp only [pS]
       refine stepQ 10 rfl (fun K HK => ?_)
       go_simp
       refine (HC3.out _ hB).mono ?_
       rintro e u3 ⟨D3, d3, rfl, own3, hbn⟩
       have a3 := rds_on (rds_free own3) (Below.refl _ _) (show w3.heap.size ≤ _ from hB.size)
       have a1 := rds_on a1 hbn (Nat.le_refl _)
       have a2 := rds_on a2 hbn (Nat.le_refl _)
       have hB := hB.trans (hbn.mono hB.size)
       have bO := bO.below hbn bO.lt
       have bX := bX.below hbn bX.lt
       refine HK.out _ _ (fun _ => ⟨bO.at3, bX.at0, bX.at1, bX.at2, bX.at3⟩) ?_
       clear HK own3 hbn HC3
       try simp only [pS]
       refine stepQ 13 rfl (fun K HK => ?_)
       go_simp
       refine (HC4.out _ hB).mono ?_
       rintro e u4 ⟨D4, d4, rfl, own4, hbn⟩
       have a4 := rds_on (rds_free own4) (Below.refl _ _) (show w3.heap.size ≤ _ from hB.size)
       have a1 := rds_on a1 hbn (Nat.le_refl _)
       have a2 := rds_on a2 hbn (Nat.le_refl _)
       have a3 := rds_on a3 hbn (Nat.le_refl _)
       have hB := hB.trans (hbn.mono hB.size)
       have bO := bO.below hbn bO.lt
       have bX := bX.below hbn bX.lt
       refine HK.out _ _ (fun _ => ⟨bO.at3, bX.at0, bX.at1, bX.at2, bX.at3⟩) ?_
       clear HK own4 hbn HC4
       try simp only [pS]
       refine stepQ 14 rfl (fun K HK => ?_)
       go_simp
       refine HK.out _ _ (fun _ => ⟨bO.at3, bX.at0, bX.at1, bX.at2, bX.at3⟩) ?_
       clear HK
       try simp only [pS]
       refine stepQ 15 rfl (fun K HK => ?_)
       go_simp
       have hB6 := (hB1.trans (hB.mono hB1.size)).alloc (Nat.le_trans hB1.size hB.size) (.cells #[.slice D1 x.phis.length d1, .slice D2 x.body.length d2, .slice D3 x.succ.length d3, .slice D4 x.preds.length d4] 61)
       have bO6 := bO.alloc (.cells #[.slice D1 x.phis.length d1, .slice D2 x.body.length d2, .slice D3 x.succ.length d3, .slice D4 x.preds.length d4] 61)
       have bX6 := bX.alloc (.cells #[.slice D1 x.phis.length d1, .slice D2 x.body.length d2, .slice D3 x.succ.length d3, .slice D4 x.preds.length d4] 61)
       refine HK.out _ _ (fun _ => ⟨bO6.at3, bX6.at0, bX6.at1, bX6.at2, bX6.at3⟩) ?_
       clear HK
       try simp only [pS]
       refine stepQ 16 rfl (fun K HK => ?_)
       have HU6 := Lib.hid (HU.out.below hB6)
       have bN := Blk.new u4 61 #[.slice D1 x.phis.length d1, .slice D2 x.body.length d2, .slice D3 x.succ.length d3, .slice D4 x.preds.length d4]
       have hB7 := (Below.refl u4.heap.size u4).alloc (Nat.le_refl _) (.cells #[.slice D1 x.phis.length d1, .slice D2 x.body.length d2, .slice D3 x.succ.length d3, .slice D4 x.preds.length d4] 61)
       have hz7 : (u4.alloc (.cells #[.slice D1 x.phis.length d1, .slice D2 x.body.length d2, .slice D3 x.succ.length d3, .slice D4 x.preds.length d4] 61)).heap.size = u4.heap.size + 1 := by simp
       have a1 := rds_on a1 hB7 (Nat.le_refl _)
       have a2 := rds_on a2 hB7 (Nat.le_refl _)
       have a3 := rds_on a3 hB7 (Nat.le_refl _)
       have a4 := rds_on a4 hB7 (Nat.le_refl _)
       have bR6 := bR.below hB6 bR.lt
       have bI6 := bI.below hB6 bI.lt
       generalize u4.alloc (.cells #[.slice D1 x.phis.length d1, .slice D2 x.body.length d2, .slice D3 x.succ.length d3, .slice D4 x.preds.length d4] 61) = w6 at *
       have hup : ∀ b, UIn w3.heap.size w6 b → UIn wn.heap.size w6 b ∧ B.map (·.block) ≠ some b := fun b h => HU.out.apart hB6 (h.base (by have := HZ1.out; omega)) HZn.out.1
       have HI6 := Lib.hid (show bkShape.inner (fun b => UIn wn.heap.size w6 b ∧ B.map (·.block) ≠ some b) w6 x ⟨(D1, d1), (D2, d2), (D3, d3), (D4, d4)⟩ from ⟨a1.more hup, a2.more hup, a3.more hup, a4.more hup⟩)
       clear a1 a2 a3 a4 hup
       have own6 : w6.ownsRow wn.heap.size 61 4 (.slice B j cB) j (bkShape.cells (f.blocks.take j) hs) := by
        have h := HU6.out.own
        rw [Hlen.out] at h
        exact h
       have hn1 := HZn.out.1
       have hn2 := HZn.out.2
       have lR := bR.lt
       have nO : (Value.slice B j cB).ownBlock ≠ some (w.heap.size + 1 + 1) ∧ (Value.slice B j cB).ownBlock ≠ some (w.heap.size + 1) ∧ (Value.slice B j cB).ownBlock ≠ some w.heap.size ∧ (Value.slice B j cB).ownBlock ≠ some wr.heap.size := by
        have hlt2 := HU.out.own.lt
        rw [Hlen.out] at hlt2
        refine ⟨fun e => ?_, fun e => ?_, fun e => ?_, fun e => ?_⟩ <;> have := hlt2 _ e <;> omega
       have hsz6 := hB6.size
       rw [if_pos (by rfl)]
       refine oper_append_row (.tmp 44) (.tmp 58) 27 rfl wn.heap.size 61 _ 4 96 Tryz.underlying27 infoBk rfl (by omega) B cB j (bkShape.cells (f.blocks.take j) hs) rfl own6 u4.heap.size 1 1 61 [.slice D1 x.phis.length d1, .slice D2 x.body.length d2, .slice D3 x.succ.length d3, .slice D4 x.preds.length d4] rfl bN rfl (by intro u hu; simp at hu; rcases hu with rfl | rfl | rfl | rfl <;> rfl) (by unfold maxLen; omega) (by omega) (by omega) ?_
       intro A3' c3' w7 own3 hg3d hat3
       have hg3 : w6.grownBy w7 (Value.slice B j cB).ownBlock := ⟨hg3d.os, hg3d.tape, hg3d.output, hg3d.size, hg3d.block⟩
       have bO7 := bO6.grown hg3 (Ne.symm nO.1)
       have bX7 := bX6.grown hg3 (Ne.symm nO.2.2.2)
       have HS7 : w7.cell? ⟨w.heap.size + 1 + 1, 3, none⟩ = some (.slice B j cB) ∧ w7.cell? ⟨wr.heap.size, 0, none⟩ = some (.slice A1 x.phis.length c1) ∧ w7.cell? ⟨wr.heap.size, 1, none⟩ = some (.slice A2 x.body.length c2) ∧ w7.cell? ⟨wr.heap.size, 2, none⟩ = some (.slice A3 x.succ.length c3) ∧ w7.cell? ⟨wr.heap.size, 3, none⟩ = some (.slice A4 x.preds.length c4) := ⟨bO7.at3, bX7.at0, bX7.at1, bX7.at2, bX7.at3⟩
       refine HK.out _ _ (fun _ => HS7) ?_
       clear HK
       try simp only [pS]
       refine takeQ 17 60 rfl HS7 (.inl ⟨rfl, fun W hW => by obtain ⟨q0, q1, q2, q3, q4⟩ := hW; go_simp; rfl⟩) ?_
       simp only [pS]
       clear HS7
       have z3 := bO7.at3
       have zf := bO7.frozen 3
       have zl := bO7.lt
       refine stepQ 18 rfl (fun K HK => ?_)
       go_simp
       refine HK.out _ _ (fun h => by simp at h) ?_
       clear HK z3 zf zl
       refine wpAnyJ_done (by kernel_rfl) ?_ _
       have HU7 := HU6.out.snoc (w3 := w7) (A3 := A3') (c3 := c3') x ⟨(D1, d1), (D2, d2), (D3, d3), (D4, d4)⟩ HI6.out (by rw [Hlen.out]; exact own3) (by rw [Hlen.out]; exact hg3) (by rw [Hlen.out]; exact hat3)
       have HU8 := HU7.kb (w' := w7.setCell ⟨w.heap.size + 1 + 1, 3, none⟩ (.slice A3' (j + 1) c3')) ((KB.refl _ _).set (p := ⟨w.heap.size + 1 + 1, 3, none⟩) (fun h => by have := h.1; simp at this; omega) _) (by simp)
       rw [← Htk.out] at HU8
       have bO8 := bO7.set_ 3 (.slice A3' (j + 1) c3')
       simp at bO8
       have bR8 := (bR6.grown hg3 (Ne.symm nO.2.1)).far (p := ⟨w.heap.size + 1 + 1, 3, none⟩) (by show w.heap.size + 1 ≠ w.heap.size + 1 + 1; omega) (.slice A3' (j + 1) c3')
       have bI8 := (bI6.grown hg3 (Ne.symm nO.2.2.1)).far (p := ⟨w.heap.size + 1 + 1, 3, none⟩) (by show w.heap.size ≠ w.heap.size + 1 + 1; omega) (.slice A3' (j + 1) c3')
       have hb8 := (((hb.trans (hB6.mono hsz)).grown hg3 (by omega) (fun q hq => by have := (own6.lt q hq).1; omega)).setCell (p := ⟨w.heap.size + 1 + 1, 3, none⟩) (by show w.heap.size ≤ w.heap.size + 1 + 1; omega) (.slice A3' (j + 1) c3'))
       have HK8 := Lib.hid (((HKn.out.trans (KB.of_below hB6 (fun b h => by have := h.2; omega))).grown hg3 (fun b h => by omega) (fun b h e => by have := (own6.lt b e.symm).1; omega)).set (p := ⟨w.heap.size + 1 + 1, 3, none⟩) (fun h => by have := h.1; simp at this; omega) (.slice A3' (j + 1) c3'))
       have hz8 := hg3.size
       have HZ8 := Lib.hid (show wn.heap.size ≤ (w7.setCell ⟨w.heap.size + 1 + 1, 3, none⟩ (.slice A3' (j + 1) c3')).heap.size ∧ w.heap.size + 3 ≤ wn.heap.size by simp; omega)
       have HU9 := Lib.hid HU8
       clear HU7 HU8 hz8 own3 hg3 hat3 bO7 own6 HU6 HU HI6 bO bR bI bO6 bR6 bI6 hb hB1 hB6 hB hB7 bX bX6 bX7 bN HKn HZn hn1 hn2 lR nO hsz6 hg3d bO1 hb1 hz7
       go_wp2
       go_roundw
       case rel => exact ⟨j + 1, c3', A3', _, by omega, by go_num, HU9, bO8, bR8, bI8, HK8, HZ8, hb8⟩
       case measure => simp [intOf]; omega
       -- dev>
     · have e : f.blocks.length = j := by omega
       obtain ⟨wb, HBk, HKb, HZb⟩ : ∃ wb : World, Hid (RdL bkShape wb (UIn wn.heap.size wb) B f.blocks) ∧ Hid (KB (fun b => wn.heap.size ≤ b ∧ b < wb.heap.size) wb wr) ∧ Hid (wb.heap.size ≤ wr.heap.size ∧ wn.heap.size ≤ wb.heap.size) :=
        ⟨wr, Lib.hid (by have h := HU.out.rd; rw [List.take_of_length_le (by omega)] at h; exact h), Lib.hid (KB.refl _ _), Lib.hid ⟨Nat.le_refl _, HZn.out.1⟩⟩
       have HUs := Lib.hid (show URow steShape 70 wr wb.heap.size (f.states.take 0) [] none 0 from URow.nil _ _ _ _)
       have Hn3 := Lib.hid HZn.out.2
       clear HU HZn hlt
       have hge : ¬ (j : Int) < f.blocks.length := by omega
       rw [← e] at bO
       clear e
       have y4 := bI.cell 4
       simp at y4
       have lI := bI.lt
       go_wp2
       clear y4 lI hge
       go_loopw [65] (fun iv wr => ∃ (i cS : Nat) (V : Option Addr) (hs : List H4), i ≤ f.states.length ∧ iv = .int .i64 i ∧ Hid (URow steShape 70 wr wb.heap.size (f.states.take i) hs V cS) ∧ Blk wr (w.heap.size + 1 + 1) 30 #[.int .i64 f.mth, .int .i64 f.entry, .slice A f.nodes.length c, .slice B f.blocks.length cB, .slice V i cS] ∧ Blk wr (w.heap.size + 1) 30 #[.int .i64 0, .int .i64 0, .slice none 0 0, .slice none 0 0, .slice none 0 0] ∧ Blk wr w.heap.size 30 #[.int .i64 f.mth, .int .i64 f.entry, .slice An f.nodes.length cn, .slice Ab f.blocks.length cb, .slice As f.states.length cs] ∧ Hid (KB (fun b => w.heap.size + 3 ≤ b ∧ b < wn.heap.size) wn wr) ∧ Hid (KB (fun b => wn.heap.size ≤ b ∧ b < wb.heap.size) wb wr) ∧ Hid (wb.heap.size ≤ wr.heap.size ∧ wn.heap.size ≤ wb.heap.size) ∧ Below w.heap.size w wr) (fun iv _ => f.states.length - (intOf iv).toNat)
       case atStart => exact ⟨0, 0, none, [], Nat.zero_le _, rfl, HUs, bO, bR, bI, HKn, HKb, HZb, hb⟩
       case round =>
        clear bI bR bO hb HUs HKn HKb HZb
        obtain ⟨i, cS, V, hs, hi, rfl, HU, bO, bR, bI, HKn, HKb, HZb, hb⟩ := hrel
        by_cases hlt : i < f.states.length
        · have k0 : (0 : Int) ≤ i := by omega
          have k1 : (i : Int) < f.states.length := by omega
          obtain ⟨b, off, A1, c1, A2, c2, A3, c3, rfl, hbb, x0, x1, x2, x3, x4, x5, r1, r2, r3⟩ := rd_ste (HF.out.states.below hb (fun _ h => h)) hlt
          have ha1 := HM.out.locals i
          have ha2 := HM.out.stack i
          have hav := HM.out.virts i
          have Hfl := Lib.hid (HM.out.fields i)
          have Htk := Lib.hid (show f.states.take (i + 1) = f.states.take i ++ [f.states.getD i default] by rw [List.take_succ_eq_append_getElem hlt]; simp [hlt])
          have Hlen := Lib.hid (show (f.states.take i).length = i by rw [List.length_take]; omega)
          generalize f.states.getD i default = x at *
          obtain ⟨wo, rfl⟩ : ∃ x, x = wr := ⟨_, rfl⟩
          have hsz := hb.size
          go_upto_region 16 with (fail)
          have bX := Blk.new wo 70 #[.int .i64 x.mth, .int .i64 x.pc, .int .i64 x.up, .slice A1 x.locals.length c1, .slice A2 x.stack.length c2, .slice A3 x.virts.length c3]
          have hB1 := (Below.refl wo.heap.size wo).alloc (Nat.le_refl _) (.cells #[.int .i64 x.mth, .int .i64 x.pc, .int .i64 x.up, .slice A1 x.locals.length c1, .slice A2 x.stack.length c2, .slice A3 x.virts.length c3] 70)
          have HZ1 := Lib.hid (show (wo.alloc (.cells #[.int .i64 x.mth, .int .i64 x.pc, .int .i64 x.up, .slice A1 x.locals.length c1, .slice A2 x.stack.length c2, .slice A3 x.virts.length c3] 70)).heap.size = wo.heap.size + 1 by simp)
          have hb1 := hb.trans (hB1.mono hsz)
          have HC1 := Lib.hid (fun W hW => clone_at (c := c1) (W := W) (r1.keep (Kept.of_below hB1 (fun b h => Nat.lt_of_lt_of_le h hsz))) (fun b h => Nat.lt_of_lt_of_le h hb1.size) ha1 hW)
          have HC2 := Lib.hid (fun W hW => clone_at (c := c2) (W := W) (r2.keep (Kept.of_below hB1 (fun b h => Nat.lt_of_lt_of_le h hsz))) (fun b h => Nat.lt_of_lt_of_le h hb1.size) ha2 hW)
          have Hr3 := Lib.hid r3
          clear r1 r2 r3 x0 x1 x2 x3 x4 x5
          generalize wo.alloc (.cells #[.int .i64 x.mth, .int .i64 x.pc, .int .i64 x.up, .slice A1 x.locals.length c1, .slice A2 x.stack.length c2, .slice A3 x.virts.length c3] 70) = w3 at *
          refine wpJ_start (S := fun W : World => W.cell? ⟨wo.heap.size, 3, none⟩ = some (.slice A1 x.locals.length c1) ∧ W.cell? ⟨wo.heap.size, 4, none⟩ = some (.slice A2 x.stack.length c2)) (fun q => decide (q ≤ 6)) (by kernel_rfl) (show (fun W : World => W.cell? ⟨wo.heap.size, 3, none⟩ = some (.slice A1 x.locals.length c1) ∧ W.cell? ⟨wo.heap.size, 4, none⟩ = some (.slice A2 x.stack.length c2)) w3.drew from ⟨bX.at3, bX.cell 4⟩) (fun HS => ?_)
          refine takeQ 0 69 rfl HS (.inl ⟨rfl, fun W hW => by obtain ⟨q0, q1⟩ := hW; go_simp; rfl⟩) ?_
          simp only [pS]
          refine takeQ 1 70 rfl HS (.inl ⟨rfl, fun W hW => by obtain ⟨q0, q1⟩ := hW; go_simp; rfl⟩) ?_
          simp only [pS]
          refine takeQ 3 72 rfl HS (.inl ⟨rfl, fun W hW => by obtain ⟨q0, q1⟩ := hW; go_simp; rfl⟩) ?_
          simp only [pS]
          refine takeQ 4 73 rfl HS (.inl ⟨rfl, fun W hW => by obtain ⟨q0, q1⟩ := hW; go_simp; rfl⟩) ?_
          simp only [pS]
          have hB := (Below.refl w3.heap.size w3).drew
          have bX : Blk w3.drew _ _ _ := bX
          clear HS
          refine stepQ 2 rfl (fun K HK => ?_)
          go_simp
          refine (HC1.out _ hB).mono ?_
          rintro e u1 ⟨D1, d1, rfl, own1, hbn⟩
          have a1 := rds_on (rds_free own1) (Below.refl _ _) (show w3.heap.size ≤ _ from hB.size)
          have hB := hB.trans (hbn.mono hB.size)
          have bX := bX.below hbn bX.lt
          refine HK.out _ _ (fun _ => ⟨bX.at3, bX.cell 4⟩) ?_
          clear HK own1 hbn HC1
          try simp only [pS]
          have HSu : u1.cell? ⟨wo.heap.size, 3, none⟩ = some (.slice A1 x.locals.length c1) ∧ u1.cell? ⟨wo.heap.size, 4, none⟩ = some (.slice A2 x.stack.length c2) := ⟨bX.at3, bX.cell 4⟩
          refine takeQ 6 75 rfl HSu (.inl ⟨rfl, fun W hW => by obtain ⟨q0, q1⟩ := hW; go_simp; rfl⟩) ?_
          simp only [pS]
          clear HSu
          refine stepQ 5 rfl (fun K HK => ?_)
          go_simp
          refine (HC2.out _ hB).mono ?_
          rintro e u2 ⟨D2, d2, rfl, own2, hbn⟩
          have a2 := rds_on (rds_free own2) (Below.refl _ _) (show w3.heap.size ≤ _ from hB.size)
          have a1 := rds_on a1 hbn (Nat.le_refl _)
          have hB := hB.trans (hbn.mono hB.size)
          have bX := bX.below hbn bX.lt
          refine HK.out _ _ (fun _ => ⟨bX.at3, bX.cell 4⟩) ?_
          clear HK own2 hbn HC2
          try simp only [pS]
          have z3 := bX.at3
          have zf3 := bX.frozen 3
          have zl := bX.lt
          refine stepQ 7 rfl (fun K HK => ?_)
          go_simp
          have K7 := (KB.refl (fun b => w3.heap.size ≤ b ∧ b < u2.heap.size) u2).set (p := ⟨wo.heap.size, 3, none⟩) (fun h => by have := HZ1.out; have := h.1; simp at this; omega) (.slice D1 x.locals.length d1)
          have hB7 := (hB1.trans (hB.mono hB1.size)).setCell (p := ⟨wo.heap.size, 3, none⟩) (Nat.le_refl _) (.slice D1 x.locals.length d1)
          have bX := bX.set_ 3 (.slice D1 x.locals.length d1)
          have hz7 : (u2.setCell ⟨wo.heap.size, 3, none⟩ (.slice D1 x.locals.length d1)).heap.size = u2.heap.size := by simp
          refine HK.out _ _ (fun h => by simp at h) ?_
          clear HK z3 zf3 zl
          generalize u2.setCell ⟨wo.heap.size, 3, none⟩ (.slice D1 x.locals.length d1) = u3 at *
          simp at bX
          have Hz7 := Lib.hid hz7
          clear hz7
          try simp only [pS]
          have z4 : u3.cell? ⟨wo.heap.size, 4, none⟩ = some _ := bX.cell 4
          have zf4 := bX.frozen 4
          have zl := bX.lt
          refine stepQ 8 rfl (fun K HK => ?_)
          go_simp
          refine HK.out _ _ (fun h => by simp at h) ?_
          clear HK
          try simp only [pS]
          refine stepQ 9 rfl (fun K HK => ?_)
          go_simp
          have K9 := K7.set (p := ⟨wo.heap.size, 4, none⟩) (fun h => by have := HZ1.out; have := h.1; simp at this; omega) (.slice D2 x.stack.length d2)
          have hB9 := hB7.setCell (p := ⟨wo.heap.size, 4, none⟩) (Nat.le_refl _) (.slice D2 x.stack.length d2)
          have bX := bX.set_ 4 (.slice D2 x.stack.length d2)
          have hz9 : (u3.setCell ⟨wo.heap.size, 4, none⟩ (.slice D2 x.stack.length d2)).heap.size = u3.heap.size := by simp
          refine HK.out _ _ (fun h => by simp at h) ?_
          clear HK z4 zf4 zl
          generalize u3.setCell ⟨wo.heap.size, 4, none⟩ (.slice D2 x.stack.length d2) = u4 at *
          simp at bX
          have Hz9 := Lib.hid (show u4.heap.size = u2.heap.size from by have := Hz7.out; omega)
          clear hz9
          refine wpAnyJ_done (by kernel_rfl) ?_ _
          have HD := Lib.hid (show RdS u4 (UIn w3.heap.size u4) 1 D1 x.locals.length (ints x.locals) ∧ RdS u4 (UIn w3.heap.size u4) 1 D2 x.stack.length (ints x.stack) from by
           have hz := Hz9.out
           have mv : ∀ b, UIn w3.heap.size u2 b → UIn w3.heap.size u4 b := fun b h => h.keep (by omega) (K9 b ⟨h.1, h.2.1⟩)
           exact ⟨(a1.keep (K9.kept.sub (fun b h => ⟨h.1, h.2.1⟩))).more mv, (a2.keep (K9.kept.sub (fun b h => ⟨h.1, h.2.1⟩))).more mv⟩)
          have HB9 := Lib.hid hB9
          have Hw3 := Lib.hid (show w3.heap.size ≤ u4.heap.size from by have := hB.size; have := Hz9.out; simp at *; omega)
          clear a1 a2 K7 K9 hB7 hB9 hB hB1 hb1
          have y5 : World.cell? _ ⟨wo.heap.size, 5, none⟩ = some (.slice A3 x.virts.length c3) := bX.cell 5
          have lX := bX.lt
          go_wp2
          clear y5 lX
          have HKv := Lib.hid (KB.refl (fun b => w3.heap.size ≤ b ∧ b < u4.heap.size) u4)
          have HUv := Lib.hid (show URow vtShape 72 u4 u4.heap.size (x.virts.take 0) [] none 0 from URow.nil _ _ _ _)
          go_loopw [10, 80] (fun lv iv wr => ∃ (q cV' : Nat) (V' : Option Addr) (hsv : List (Option Addr × Nat)), q ≤ x.virts.length ∧ lv = .slice V' q cV' ∧ iv = .int .i64 q ∧ Hid (URow vtShape 72 wr u4.heap.size (x.virts.take q) hsv V' cV') ∧ Hid (KB (fun b => w3.heap.size ≤ b ∧ b < u4.heap.size) u4 wr) ∧ Blk wr wo.heap.size 70 #[.int .i64 x.mth, .int .i64 x.pc, .int .i64 x.up, .slice D1 x.locals.length d1, .slice D2 x.stack.length d2, .slice A3 x.virts.length c3] ∧ Hid (Below wo.heap.size wo wr) ∧ Hid (u4.heap.size ≤ wr.heap.size)) (fun _ iv _ => x.virts.length - (intOf iv).toNat)
          case atStart => exact ⟨0, 0, none, [], Nat.zero_le _, rfl, rfl, HUv, HKv, bX, HB9, Lib.hid (Nat.le_refl _)⟩
          case round =>
           clear bX HUv HKv HB9
           obtain ⟨q, cV', V', hsv, hq, rfl, rfl, HV, HKv, bX, HBo, HZv⟩ := hrel
           by_cases hlq : q < x.virts.length
           · have q0 : (0 : Int) ≤ q := by omega
             have q1 : (q : Int) < x.virts.length := by omega
             obtain ⟨b9, off9, A9, c9, rfl, hb9, y0, y1, r9⟩ := rd_vt (Hr3.out.below HBo.out (fun b h => Nat.lt_of_lt_of_le h hsz)) hlq
             have hal := Hfl.out q
             have Htq := Lib.hid (show x.virts.take (q + 1) = x.virts.take q ++ [x.virts.getD q default] by rw [List.take_succ_eq_append_getElem hlq]; simp [hlq])
             have Hlq := Lib.hid (show (x.virts.take q).length = q by rw [List.length_take]; omega)
             generalize x.virts.getD q default = y at *
             have hzo := HBo.out.size
             go_upto_region 21 with (fail)
             have bV := Blk.new wr 72 #[.int .i64 y.cls, .slice A9 y.fields.length c9]
             have hA1 := (Below.refl wr.heap.size wr).alloc (Nat.le_refl _) (.cells #[.int .i64 y.cls, .slice A9 y.fields.length c9] 72)
             have HZq := Lib.hid (show (wr.alloc (.cells #[.int .i64 y.cls, .slice A9 y.fields.length c9] 72)).heap.size = wr.heap.size + 1 by simp)
             have HC9 := Lib.hid (fun W hW => clone_at (c := c9) (W := W) (r9.keep (Kept.of_below hA1 (fun b h => Nat.lt_of_lt_of_le (Nat.lt_of_lt_of_le h hsz) hzo))) (fun b h => Nat.lt_of_lt_of_le (Nat.lt_of_lt_of_le (Nat.lt_of_lt_of_le h hsz) hzo) hA1.size) hal hW)
             clear r9 y0 y1
             generalize wr.alloc (.cells #[.int .i64 y.cls, .slice A9 y.fields.length c9] 72) = v3 at *
             refine wpJ_start (S := fun W : World => W.cell? ⟨wr.heap.size, 0, none⟩ = some (.int .i64 y.cls) ∧ W.cell? ⟨wr.heap.size, 1, none⟩ = some (.slice A9 y.fields.length c9)) (fun q => decide (q ≤ 8)) (by kernel_rfl) (show (fun W : World => W.cell? ⟨wr.heap.size, 0, none⟩ = some (.int .i64 y.cls) ∧ W.cell? ⟨wr.heap.size, 1, none⟩ = some (.slice A9 y.fields.length c9)) v3.drew from ⟨bV.at0, bV.at1⟩) (fun HS => ?_)
             refine takeQ 0 84 rfl HS (.inl ⟨rfl, fun W hW => by obtain ⟨q0, q1⟩ := hW; go_simp; rfl⟩) ?_
             simp only [pS]
             refine takeQ 1 85 rfl HS (.inl ⟨rfl, fun W hW => by obtain ⟨q0, q1⟩ := hW; go_simp; rfl⟩) ?_
             simp only [pS]
             refine takeQ 2 86 rfl HS (.inl ⟨rfl, fun W hW => by obtain ⟨q0, q1⟩ := hW; go_simp; rfl⟩) ?_
             simp only [pS]
             refine takeQ 3 87 rfl HS (.inl ⟨rfl, fun W hW => by obtain ⟨q0, q1⟩ := hW; go_simp; rfl⟩) ?_
             simp only [pS]
             refine takeQ 4 88 rfl HS (.inl ⟨rfl, fun W hW => by obtain ⟨q0, q1⟩ := hW; go_simp; rfl⟩) ?_
             simp only [pS]
             have hA := (Below.refl v3.heap.size v3).drew
             have bV : Blk v3.drew _ _ _ := bV
             clear HS
             refine stepQ 5 rfl (fun K HK => ?_)
             go_simp
             refine (HC9.out _ hA).mono ?_
             rintro e v4 ⟨D9, d9, rfl, own9, hbn⟩
             have a9 := rds_on (rds_free own9) (Below.refl _ _) (show v3.heap.size ≤ _ from hA.size)
             have hA := hA.trans (hbn.mono hA.size)
             have bV := bV.below hbn bV.lt
             refine HK.out _ _ (fun _ => ⟨bV.at0, bV.at1⟩) ?_
             clear HK own9 hbn HC9
             try simp only [pS]
             refine stepQ 6 rfl (fun K HK => ?_)
             go_simp
             refine HK.out _ _ (fun _ => ⟨bV.at0, bV.at1⟩) ?_
             clear HK
             try simp only [pS]
             refine stepQ 7 rfl (fun K HK => ?_)
             go_simp
             have hA6 := (hA1.trans (hA.mono hA1.size)).alloc (Nat.le_trans hA1.size hA.size) (.cells #[.int .i64 y.cls, .slice D9 y.fields.length d9] 72)
             have bV6 := bV.alloc (.cells #[.int .i64 y.cls, .slice D9 y.fields.length d9] 72)
             refine HK.out _ _ (fun _ => ⟨bV6.at0, bV6.at1⟩) ?_
             clear HK
             try simp only [pS]
             refine stepQ 8 rfl (fun K HK => ?_)
             have HV6 := Lib.hid (HV.out.below hA6)
             have bN := Blk.new v4 72 #[.int .i64 y.cls, .slice D9 y.fields.length d9]
             have hA7 := (Below.refl v4.heap.size v4).alloc (Nat.le_refl _) (.cells #[.int .i64 y.cls, .slice D9 y.fields.length d9] 72)
             have a9 := rds_on a9 hA7 (Nat.le_refl _)
             generalize v4.alloc (.cells #[.int .i64 y.cls, .slice D9 y.fields.length d9] 72) = v6 at *
             have HI6 := Lib.hid (show vtShape.inner (fun b => UIn u4.heap.size v6 b ∧ V'.map (·.block) ≠ some b) v6 y (D9, d9) from a9.more (fun b h => HV.out.apart hA6 (h.base (by have := HZq.out; omega)) HZv.out))
             clear a9
             have own6 : v6.ownsRow u4.heap.size 72 2 (.slice V' q cV') q (vtShape.cells (x.virts.take q) hsv) := by
              have h := HV6.out.own
              rw [Hlq.out] at h
              exact h
             have hz9 := HZv.out
             have lX := bX.lt
             have hw3 := Hw3.out
             have hz1 := HZ1.out
             have nV : (Value.slice V' q cV').ownBlock ≠ some wo.heap.size ∧ (Value.slice V' q cV').ownBlock ≠ some wr.heap.size := by
              have hlt2 := HV.out.own.lt
              rw [Hlq.out] at hlt2
              refine ⟨fun e => ?_, fun e => ?_⟩ <;> have := hlt2 _ e <;> omega
             have hsz6 := hA6.size
             rw [if_pos (by rfl)]
             refine oper_append_row (.tmp 84) (.tmp 91) 68 rfl u4.heap.size 72 _ 2 32 Tryz.underlying68 infoVt rfl (by omega) V' cV' q (vtShape.cells (x.virts.take q) hsv) rfl own6 v4.heap.size 1 1 72 [.int .i64 y.cls, .slice D9 y.fields.length d9] rfl bN rfl (by intro u hu; simp at hu; rcases hu with rfl | rfl <;> rfl) (by unfold maxLen; omega) (by omega) (by omega) ?_
             intro A3' c3' v7 own3 hg3d hat3
             have hg3 : v6.grownBy v7 (Value.slice V' q cV').ownBlock := ⟨hg3d.os, hg3d.tape, hg3d.output, hg3d.size, hg3d.block⟩
             have bV7 := bV6.grown hg3 (Ne.symm nV.2)
             refine HK.out _ _ (fun _ => ⟨bV7.at0, bV7.at1⟩) ?_
             clear HK
             try simp only [pS]
             refine stepQ 9 rfl (fun K HK => ?_)
             go_simp
             refine HK.out _ _ (fun h => by simp at h) ?_
             clear HK
             refine wpAnyJ_done (by kernel_rfl) ?_ _
             have HV7 := HV6.out.snoc (w3 := v7) (A3 := A3') (c3 := c3') y (D9, d9) HI6.out (by rw [Hlq.out]; exact own3) (by rw [Hlq.out]; exact hg3) (by rw [Hlq.out]; exact hat3)
             rw [← Htq.out] at HV7
             have bX7 := (bX.below hA6 bX.lt).grown hg3 (Ne.symm nV.1)
             have HB7 := Lib.hid ((HBo.out.trans (hA6.mono hzo)).grown hg3 (by omega) (fun r hr => by have := (own6.lt r hr).1; omega))
             have HK7 := Lib.hid ((HKv.out.trans (KB.of_below hA6 (fun b h => by have := h.2; omega))).grown hg3 (fun b h => by omega) (fun b h e => by have := (own6.lt b e.symm).1; omega))
             have HZ7 := Lib.hid (show u4.heap.size ≤ v7.heap.size from by have := hg3.size; omega)
             have HV9 := Lib.hid HV7
             clear HV7 own3 hg3 hat3 own6 HV6 HV HI6 bX HBo hA1 hA6 hA hA7 bV bV6 bV7 bN HKv HZv lX hsz6 hg3d hw3 hz1 hz9 nV
             go_wp2
             go_roundw
             case rel => exact ⟨q + 1, c3', A3', _, by omega, rfl, by go_num, HV9, HK7, bX7, HB7, HZ7⟩
             case measure => simp [intOf]; omega
           · have e : x.virts.length = q := by omega
             have hge : ¬ (q : Int) < x.virts.length := by omega
             have Hvr := Lib.hid (show RdL vtShape wr (UIn u4.heap.size wr) V' x.virts from by have h := HV.out.rd; rw [List.take_of_length_le (by omega)] at h; exact h)
             rw [← e]
             have HZv2 := Lib.hid (show u4.heap.size ≤ wr.heap.size ∧ w3.heap.size ≤ u4.heap.size ∧ w3.heap.size = wo.heap.size + 1 from ⟨HZv.out, Hw3.out, HZ1.out⟩)
             have z5 : World.cell? _ ⟨wo.heap.size, 5, none⟩ = some (.slice A3 x.virts.length c3) := bX.cell 5
             have zf := bX.frozen 5
             have zl := bX.lt
             clear HV HZv hlq e
             go_upto_region 24 with (fail)
             have K5 := (KB.refl (fun b => w3.heap.size ≤ b ∧ b < wr.heap.size) wr).set (p := ⟨wo.heap.size, 5, none⟩) (fun h => by have := HZv2.out; have := h.1; simp at this; omega) (.slice V' x.virts.length cV')
             have hB5 := HBo.out.setCell (p := ⟨wo.heap.size, 5, none⟩) (Nat.le_refl _) (.slice V' x.virts.length cV')
             have bX := bX.set_ 5 (.slice V' x.virts.length cV')
             have hz5 : (wr.setCell ⟨wo.heap.size, 5, none⟩ (.slice V' x.virts.length cV')).heap.size = wr.heap.size := by simp
             generalize wr.setCell ⟨wo.heap.size, 5, none⟩ (.slice V' x.virts.length cV') = v5 at *
             simp at bX
             have HZ5 := Lib.hid hz5
             clear hz5 z5 zf zl hge
             have hB6 := hB5.alloc hB5.size (.cells #[.int .i64 x.mth, .int .i64 x.pc, .int .i64 x.up, .slice D1 x.locals.length d1, .slice D2 x.stack.length d2, .slice V' x.virts.length cV'] 70)
             have K6 := K5.alloc (fun b h => by have := HZ5.out; omega) (.cells #[.int .i64 x.mth, .int .i64 x.pc, .int .i64 x.up, .slice D1 x.locals.length d1, .slice D2 x.stack.length d2, .slice V' x.virts.length cV'] 70)
             have bO6 := bO.below hB6 bO.lt
             have bR6 := bR.below hB6 bR.lt
             have bI6 := bI.below hB6 bI.lt
             have HU6 := Lib.hid (HU.out.below hB6)
             have HZ6 := Lib.hid (show (v5.alloc (.cells #[.int .i64 x.mth, .int .i64 x.pc, .int .i64 x.up, .slice D1 x.locals.length d1, .slice D2 x.stack.length d2, .slice V' x.virts.length cV'] 70)).heap.size = wr.heap.size + 1 by simp; exact HZ5.out)
             have hup : ∀ b, UIn w3.heap.size (v5.alloc (.cells #[.int .i64 x.mth, .int .i64 x.pc, .int .i64 x.up, .slice D1 x.locals.length d1, .slice D2 x.stack.length d2, .slice V' x.virts.length cV'] 70)) b → UIn wb.heap.size (v5.alloc (.cells #[.int .i64 x.mth, .int .i64 x.pc, .int .i64 x.up, .slice D1 x.locals.length d1, .slice D2 x.stack.length d2, .slice V' x.virts.length cV'] 70)) b ∧ V.map (·.block) ≠ some b := fun b h => HU.out.apart hB6 (h.base (by have := HZ1.out; omega)) HZb.out.1
             have mv1 : ∀ b, UIn w3.heap.size u4 b → UIn w3.heap.size (v5.alloc (.cells #[.int .i64 x.mth, .int .i64 x.pc, .int .i64 x.up, .slice D1 x.locals.length d1, .slice D2 x.stack.length d2, .slice V' x.virts.length cV'] 70)) b := fun b h => h.keep (by have := HZ6.out; have := HZv2.out; omega) ((K6 b ⟨h.1, by have := h.2.1; have := HZv2.out; omega⟩).trans (HKv.out b ⟨h.1, h.2.1⟩))
             have mv2 : ∀ b, UIn u4.heap.size wr b → UIn w3.heap.size (v5.alloc (.cells #[.int .i64 x.mth, .int .i64 x.pc, .int .i64 x.up, .slice D1 x.locals.length d1, .slice D2 x.stack.length d2, .slice V' x.virts.length cV'] 70)) b := fun b h => (h.keep (by have := HZ6.out; omega) (K6 b ⟨by have := h.1; have := HZv2.out; omega, h.2.1⟩)).base HZv2.out.2.1
             have KD : Kept (UIn w3.heap.size u4) u4 (v5.alloc (.cells #[.int .i64 x.mth, .int .i64 x.pc, .int .i64 x.up, .slice D1 x.locals.length d1, .slice D2 x.stack.length d2, .slice V' x.virts.length cV'] 70)) := (HKv.out.kept.sub (fun b h => ⟨h.1, h.2.1⟩)).trans (K6.kept.sub (fun b h => ⟨h.1, by have := h.2.1; have := HZv2.out; omega⟩))
             have HI6 := Lib.hid (show steShape.inner (fun b => UIn wb.heap.size (v5.alloc (.cells #[.int .i64 x.mth, .int .i64 x.pc, .int .i64 x.up, .slice D1 x.locals.length d1, .slice D2 x.stack.length d2, .slice V' x.virts.length cV'] 70)) b ∧ V.map (·.block) ≠ some b) (v5.alloc (.cells #[.int .i64 x.mth, .int .i64 x.pc, .int .i64 x.up, .slice D1 x.locals.length d1, .slice D2 x.stack.length d2, .slice V' x.virts.length cV'] 70)) x ⟨(D1, d1), (D2, d2), (V', cV'), (none, 0)⟩ from
              ⟨((HD.out.1.keep KD).more (fun b h => hup b (mv1 b h))), ((HD.out.2.keep KD).more (fun b h => hup b (mv1 b h))), ((Hvr.out.keep (K6.kept.sub (fun b h => ⟨by have := h.1; have := HZv2.out; omega, h.2.1⟩))).more (fun b h => hup b (mv2 b h)))⟩)
             clear hup mv1 mv2 KD
             have own6 : (v5.alloc (.cells #[.int .i64 x.mth, .int .i64 x.pc, .int .i64 x.up, .slice D1 x.locals.length d1, .slice D2 x.stack.length d2, .slice V' x.virts.length cV'] 70)).ownsRow wb.heap.size 70 6 (.slice V i cS) i (steShape.cells (f.states.take i) hs) := by
              have h := HU6.out.own
              rw [Hlen.out] at h
              exact h
             have lR := bR.lt
             have hzb := HZb.out
             have hn3 := Hn3.out
             have nO : (Value.slice V i cS).ownBlock ≠ some (w.heap.size + 1 + 1) ∧ (Value.slice V i cS).ownBlock ≠ some (w.heap.size + 1) ∧ (Value.slice V i cS).ownBlock ≠ some w.heap.size := by
              refine ⟨fun e => ?_, fun e => ?_, fun e => ?_⟩ <;> have := (own6.lt _ e).1 <;> omega
             have bO5 := bO.below hB5 bO.lt
             have y4 : World.cell? _ ⟨w.heap.size + 1 + 1, 4, none⟩ = some (.slice V i cS) := bO5.cell 4
             have lO := bO5.lt
             have s0 := bX.at0
             have s1 := bX.at1
             have s2 := bX.at2
             have s3 := bX.at3
             have s4 : World.cell? _ ⟨wo.heap.size, 4, none⟩ = some (.slice D2 x.stack.length d2) := bX.cell 4
             have s5 : World.cell? _ ⟨wo.heap.size, 5, none⟩ = some (.slice V' x.virts.length cV') := bX.cell 5
             have lX := bX.lt
             have hz3 : wb.heap.size ≤ v5.heap.size := by have := hB5.size; omega
             clear bO5
             go_wp2_with (at_builtin
                          refine wpList_append_row rfl (.tmp 97) (.tmp 99) 28 rfl wb.heap.size 70 _ 6 96 Tryz.underlying28 infoSte rfl (by omega) V cS i (steShape.cells (f.states.take i) hs) rfl own6 v5.heap.size 1 1 70 [.int .i64 x.mth, .int .i64 x.pc, .int .i64 x.up, .slice D1 x.locals.length d1, .slice D2 x.stack.length d2, .slice V' x.virts.length cV'] rfl (Blk.new _ _ _) rfl (by intro u hu; simp at hu; rcases hu with rfl | rfl | rfl | rfl | rfl | rfl <;> rfl) (by unfold maxLen; omega) (by omega) (by simp; omega) ?_
                          intro A5 c5 w7 own3 hg3 hat3
                          have bO7 := bO6.grown hg3 (Ne.symm nO.1)
                          have z4 : World.cell? _ ⟨w.heap.size + 1 + 1, 4, none⟩ = some (.slice V i cS) := bO7.cell 4
                          have zf := bO7.frozen 4
                          have zl := bO7.lt)
             have HU7 := HU6.out.snoc (w3 := w7) (A3 := A5) (c3 := c5) x ⟨(D1, d1), (D2, d2), (V', cV'), (none, 0)⟩ HI6.out (by rw [Hlen.out]; exact own3) (by rw [Hlen.out]; exact hg3) (by rw [Hlen.out]; exact hat3)
             have HU8 := HU7.kb (w' := w7.setCell ⟨w.heap.size + 1 + 1, 4, none⟩ (.slice A5 (i + 1) c5)) ((KB.refl _ _).set (p := ⟨w.heap.size + 1 + 1, 4, none⟩) (fun h => by have := h.1; simp at this; omega) _) (by simp)
             rw [← Htk.out] at HU8
             have bO8 := bO7.set_ 4 (.slice A5 (i + 1) c5)
             simp at bO8
             have bR8 := (bR6.grown hg3 (Ne.symm nO.2.1)).far (p := ⟨w.heap.size + 1 + 1, 4, none⟩) (by show w.heap.size + 1 ≠ w.heap.size + 1 + 1; omega) (.slice A5 (i + 1) c5)
             have bI8 := (bI6.grown hg3 (Ne.symm nO.2.2)).far (p := ⟨w.heap.size + 1 + 1, 4, none⟩) (by show w.heap.size ≠ w.heap.size + 1 + 1; omega) (.slice A5 (i + 1) c5)
             have hb8 := (((hb.trans (hB6.mono hsz)).grown hg3 (by have := HZ6.out; have := HZv2.out; omega) (fun q hq => by have := (own6.lt q hq).1; omega)).setCell (p := ⟨w.heap.size + 1 + 1, 4, none⟩) (by show w.heap.size ≤ w.heap.size + 1 + 1; omega) (.slice A5 (i + 1) c5))
             have HK8 := Lib.hid (((HKn.out.trans (KB.of_below hB6 (fun b h => by have := h.2; omega))).grown hg3 (fun b h => by have := h.2; have := HZ6.out; have := HZv2.out; omega) (fun b h e => by have := (own6.lt b e.symm).1; have := h.2; omega)).set (p := ⟨w.heap.size + 1 + 1, 4, none⟩) (fun h => by have := h.1; simp at this; omega) (.slice A5 (i + 1) c5))
             have HL8 := Lib.hid (((HKb.out.trans (KB.of_below hB6 (fun b h => by have := h.2; omega))).grown hg3 (fun b h => by have := h.2; have := HZ6.out; have := HZv2.out; omega) (fun b h e => by have := (own6.lt b e.symm).1; have := h.2; omega)).set (p := ⟨w.heap.size + 1 + 1, 4, none⟩) (fun h => by have := h.1; simp at this; omega) (.slice A5 (i + 1) c5))
             have hz8 := hg3.size
             have HZ8 := Lib.hid (show wb.heap.size ≤ (w7.setCell ⟨w.heap.size + 1 + 1, 4, none⟩ (.slice A5 (i + 1) c5)).heap.size ∧ wn.heap.size ≤ wb.heap.size by simp; have := HZ6.out; have := HZv2.out; omega)
             have HU9 := Lib.hid HU8
             clear HU7 HU8 hz8 own3 hg3 hat3 bO7 z4 zf zl s0 s1 s2 s3 s4 s5 y4 lX lO bX own6 HU6 HU HI6 bO bR bI bO6 bR6 bI6 hb HBo hB5 hB6 K5 K6 HKn HKb HZb hzb hn3 nO lR HKv HD Hvr hz3
             refine ⟨⟨i + 1, c5, A5, _, by omega, by go_num, HU9, bO8, bR8, bI8, HK8, HL8, HZ8, hb8⟩, ?_⟩
             simp [intOf]; omega
        · have e : f.states.length = i := by omega
          have hge : ¬ (i : Int) < f.states.length := by omega
          have Hst := Lib.hid (show RdL steShape wr (UIn wb.heap.size wr) V f.states from by have h := HU.out.rd; rw [List.take_of_length_le (by omega)] at h; exact h)
          rw [← e] at bO
          clear hlt e HU
          have lR := bR.lt
          have lO := bO.lt
          have o0 := bO.at0
          have o1 := bO.at1
          have o2 := bO.at2
          have o3 := bO.at3
          have o4 : World.cell? _ ⟨w.heap.size + 1 + 1, 4, none⟩ = some (.slice V f.states.length cS) := bO.cell 4
          have r0 := bR.at0
          have r1 := bR.at1
          have r2 := bR.at2
          have r3 := bR.at3
          have r4 : World.cell? _ ⟨w.heap.size + 1, 4, none⟩ = some (.slice none 0 0) := bR.cell 4
          have f0 := bR.frozen 0
          have f1 := bR.frozen 1
          have f2 := bR.frozen 2
          have f3 := bR.frozen 3
          have f4 := bR.frozen 4
          go_wp2
          have K5 := ((((((KB.refl (fun b => w.heap.size + 3 ≤ b) wr).set (p := ⟨w.heap.size + 1, 0, none⟩) (fun h => by simp at h) (.int .i64 f.mth)).set (p := ⟨w.heap.size + 1, 1, none⟩) (fun h => by simp at h) (.int .i64 f.entry)).set (p := ⟨w.heap.size + 1, 2, none⟩) (fun h => by simp at h) (.slice A f.nodes.length c)).set (p := ⟨w.heap.size + 1, 3, none⟩) (fun h => by simp at h) (.slice B f.blocks.length cB)).set (p := ⟨w.heap.size + 1, 4, none⟩) (fun h => by simp at h) (.slice V f.states.length cS))
          have hb5 := (((((hb.setCell (p := ⟨w.heap.size + 1, 0, none⟩) (by show w.heap.size ≤ w.heap.size + 1; omega) (.int .i64 f.mth)).setCell (p := ⟨w.heap.size + 1, 1, none⟩) (by show w.heap.size ≤ w.heap.size + 1; omega) (.int .i64 f.entry)).setCell (p := ⟨w.heap.size + 1, 2, none⟩) (by show w.heap.size ≤ w.heap.size + 1; omega) (.slice A f.nodes.length c)).setCell (p := ⟨w.heap.size + 1, 3, none⟩) (by show w.heap.size ≤ w.heap.size + 1; omega) (.slice B f.blocks.length cB)).setCell (p := ⟨w.heap.size + 1, 4, none⟩) (by show w.heap.size ≤ w.heap.size + 1; omega) (.slice V f.states.length cS))
          have bR5 := (((((bR.set_ 0 (.int .i64 f.mth)).set_ 1 (.int .i64 f.entry)).set_ 2 (.slice A f.nodes.length c)).set_ 3 (.slice B f.blocks.length cB)).set_ 4 (.slice V f.states.length cS))
          simp only [List.setIfInBounds_toArray, List.set_cons_zero, List.set_cons_succ] at bR5
          have hz5 : (((((wr.setCell ⟨w.heap.size + 1, 0, none⟩ (.int .i64 f.mth)).setCell ⟨w.heap.size + 1, 1, none⟩ (.int .i64 f.entry)).setCell ⟨w.heap.size + 1, 2, none⟩ (.slice A f.nodes.length c)).setCell ⟨w.heap.size + 1, 3, none⟩ (.slice B f.blocks.length cB)).setCell ⟨w.heap.size + 1, 4, none⟩ (.slice V f.states.length cS)).heap.size = wr.heap.size := by simp
          clear r0 r1 r2 r3 r4 f0 f1 f2 f3 f4 bR hb
          generalize ((((wr.setCell ⟨w.heap.size + 1, 0, none⟩ (.int .i64 f.mth)).setCell ⟨w.heap.size + 1, 1, none⟩ (.int .i64 f.entry)).setCell ⟨w.heap.size + 1, 2, none⟩ (.slice A f.nodes.length c)).setCell ⟨w.heap.size + 1, 3, none⟩ (.slice B f.blocks.length cB)).setCell ⟨w.heap.size + 1, 4, none⟩ (.slice V f.states.length cS) = w9 at *
          have q0 : World.cell? _ ⟨w.heap.size + 1, 0, none⟩ = some (.int .i64 f.mth) := bR5.cell 0
          have q1 : World.cell? _ ⟨w.heap.size + 1, 1, none⟩ = some (.int .i64 f.entry) := bR5.cell 1
          have q2 : World.cell? _ ⟨w.heap.size + 1, 2, none⟩ = some (.slice A f.nodes.length c) := bR5.cell 2
          have q3 : World.cell? _ ⟨w.heap.size + 1, 3, none⟩ = some (.slice B f.blocks.length cB) := bR5.cell 3
          have q4 : World.cell? _ ⟨w.heap.size + 1, 4, none⟩ = some (.slice V f.states.length cS) := bR5.cell 4
          have h3 := Hn3.out
          have hb3 := HZb.out
          refine bodyPost_ret (v := .agg #[.int .i64 f.mth, .int .i64 f.entry, .slice A f.nodes.length c, .slice B f.blocks.length cB, .slice V f.states.length cS]) (by simp [results, Tryz.results24, go_sem, q0, q1, q2, q3, q4]) rfl ?_
          refine HP.out A B V c cB cS w9 ⟨?_, ?_, ?_⟩ hb5
          · exact (HN.out.keep ((HKn.out.kept.sub (fun b h => ⟨h.1, h.2.1⟩)).trans (K5.kept.sub (fun b h => h.1)))).more (fun b h => (h.keep (by omega) ((K5 b h.1).trans (HKn.out b ⟨h.1, h.2.1⟩))).base (by omega))
          · exact (HBk.out.keep ((HKb.out.kept.sub (fun b h => ⟨h.1, h.2.1⟩)).trans (K5.kept.sub (fun b h => by have := h.1; omega)))).more (fun b h => (h.keep (by omega) ((K5 b (by have := h.1; omega)).trans (HKb.out b ⟨h.1, h.2.1⟩))).base (by omega))
          · exact (Hst.out.keep (K5.kept.sub (fun b h => by have := h.1; omega))).more (fun b h => (h.keep (by omega) (K5 b (by have := h.1; omega))).base (by omega))
end Go.Proofs.YtjjmpfmhggcjiaaGreatDoor
