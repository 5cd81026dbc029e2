/-
 Rv2.
-/
import Derived.Test.YtjjmpfmhggcjiaaGreatDoorJVr6
import Derived.Test.YtjjmpfmhggcjiaaGreatDoorJPgRNext
import Derived.Test.YtjjmpfmhggcjiaaGreatDoorJRv1
set_option linter.unusedSimpArgs false
set_option linter.unusedVariables false
namespace Go.Proofs.YtjjmpfmhggcjiaaGreatDoor
open Go.RowKit Go.Maps
/-- What the document's verifier hands back of a method. -/
def RmetPost (w : World) (n : Nat) (r : Option Vs) (e : Ending) (w' : World) : Prop :=
 ∃ gs ge mo co Af nf cf, e = .returned (.tuple #[.agg #[.slice (some ⟨ge, 0, none⟩) n n, .slice (some ⟨gs, 0, none⟩) n n, .int .i64 mo], .agg #[.int .i64 co, .slice Af nf cf]]) ∧ (r.isSome = true ↔ co = 0) ∧ (∀ s, r = some s → mo = s.most ∧ Blk w' gs 9 ⟨s.stacks.map Value.string⟩ ∧ Blk w' ge 4 ⟨s.seen.map Value.bool⟩) ∧ w.heap.size ≤ gs ∧ w.heap.size ≤ ge ∧ Below w.heap.size w w'
theorem flowTo_cons {n : Nat} {b : ByteArray} {k : Int} {r : List Int} {st : List ByteArray} {se : List Bool} : flowTo n b (k :: r) st se = if (n : Int) ≤ k then none else if se.getD k.toNat false = false then flowTo n b r (st.set k.toNat b) (se.set k.toNat true) else if st.getD k.toNat ⟨#[]⟩ = b then flowTo n b r st se else none := rfl
theorem cnt_set {l : List Bool} {k : Nat} (hk : k < l.length) (h : l.getD k false = false) : (l.set k true).countP (fun d => !d) + 1 = l.countP (fun d => !d) := by
 induction l generalizing k with
 | nil => simp at hk
 | cons a l ih =>
   cases k with
   | zero =>
     simp at h
     subst h
     simp
   | succ k =>
     have := ih (by simpa using hk) (by simpa using h)
     cases a <;> simp <;> omega
set_option maxRecDepth 100000 in
set_option maxHeartbeats 8000000 in
theorem rmet_any (Ac Am : Option Addr) (cc cm : Nat) (p : Prg) (i : Nat) (mm : Mth) (w : World) (hr : RdP w w.heap.size Ac Am p) (hp : POk p) (hi : i < p.methods.length) (hmi : p.methods.getD i default = mm)
 (hlen : mm.code.length ≤ 1000) (hl0 : 0 < mm.code.length) (hk : mm.pa.size + mm.lo.size ≤ 1000) (hv : ∀ k, k < mm.code.length → insBad p.classes p.methods.length (mm.pa.size + mm.lo.size) mm.code.length (mm.code.getD k default) = 0) (hnx : ∀ k, k < mm.code.length → ∀ j ∈ nextF mm k, 0 ≤ j) (hf : ∀ k, k < mm.code.length → (effF p mm (mm.code.getD k default)).1.size ≤ 1000 ∧ (effF p mm (mm.code.getD k default)).2.1.size ≤ 1000) :
 Calls Tryz.prog 64 #[pv Ac cc Am cm p, .int .i64 i] w (RmetPost w mm.code.length (verM p mm)) := by
 have hm1 := fun W => run_make_row' (P := Tryz.prog) 91 9 (.string ⟨#[]⟩) 16 Tryz.underlying91 infoStrV rfl .i64 .i64 mm.code.length (by omega) (by omega) W
 have hm2 := fun W => run_make_row' (P := Tryz.prog) 92 4 (.bool false) 1 Tryz.underlying92 infoBoolV rfl .i64 .i64 mm.code.length (by omega) (by omega) W
 rw [made_strs] at hm1
 rw [made_bools] at hm2
 have HR := Lib.hid hr
 have k0 : (0 : Int) ≤ i := by omega
 have k1 : (i : Int) < p.methods.length := by omega
 have hb3 := (((Below.refl w.heap.size w).alloc (Nat.le_refl _) (.cells #[.slice Ac p.classes.length cc, .slice Am p.methods.length cm] 25)).alloc (by simp) (.cells #[.slice none 0 0, .slice none 0 0, .int .i64 0] 142)).alloc (by simp; omega) (.cells #[.int .i64 0, .slice none 0 0] 75)
 obtain ⟨b, off, Ai, ci, rfl, hbb, y0, y1, y2, y3, hcode⟩ := mth_at (hr.ms.below hb3 (Nat.le_refl _)) hi
 rw [hmi] at y0 y1 y2 y3 hcode
 have bP1 := (((Blk.new w 25 #[.slice Ac p.classes.length cc, .slice (some ⟨b, off, none⟩) p.methods.length cm]).alloc (.cells #[.slice none 0 0, .slice none 0 0, .int .i64 0] 142)).alloc (.cells #[.int .i64 0, .slice none 0 0] 75))
 have bP4 := bP1.alloc (.cells #[.string mm.pa, .string mm.lo, .string mm.re, .slice Ai mm.code.length ci] 90)
 have bM4 := Blk.newAt (w := (((w.alloc (.cells #[.slice Ac p.classes.length cc, .slice (some ⟨b, off, none⟩) p.methods.length cm] 25)).alloc (.cells #[.slice none 0 0, .slice none 0 0, .int .i64 0] 142)).alloc (.cells #[.int .i64 0, .slice none 0 0] 75))) (g := w.heap.size + 1 + 1 + 1) (by simp) 90 #[.string mm.pa, .string mm.lo, .string mm.re, .slice Ai mm.code.length ci]
 have bR4 := ((Blk.newAt (w := (w.alloc (.cells #[.slice Ac p.classes.length cc, .slice (some ⟨b, off, none⟩) p.methods.length cm] 25))) (g := w.heap.size + 1) (by simp) 142 #[.slice none 0 0, .slice none 0 0, .int .i64 0]).alloc (.cells #[.int .i64 0, .slice none 0 0] 75)).alloc (.cells #[.string mm.pa, .string mm.lo, .string mm.re, .slice Ai mm.code.length ci] 90)
 have bF4 := (Blk.newAt (w := ((w.alloc (.cells #[.slice Ac p.classes.length cc, .slice (some ⟨b, off, none⟩) p.methods.length cm] 25)).alloc (.cells #[.slice none 0 0, .slice none 0 0, .int .i64 0] 142))) (g := w.heap.size + 1 + 1) (by simp) 75 #[.int .i64 0, .slice none 0 0]).alloc (.cells #[.string mm.pa, .string mm.lo, .string mm.re, .slice Ai mm.code.length ci] 90)
 have p0 := bP1.at0
 have p1 := bP1.at1
 have hb4 := hb3.alloc (by simp; omega) (.cells #[.string mm.pa, .string mm.lo, .string mm.re, .slice Ai mm.code.length ci] 90)
 have Hstep := Lib.hid (fun (W : World) (hW : Below w.heap.size w W) k (hk' : k < mm.code.length) st h2 => rafter_any Ac (some ⟨b, off, none⟩) cc cm p (mm.code.getD k default) i st W ((hr.below hW (Nat.le_refl _)).more hW.size) hp hi mm hmi hk (hv k hk') h2 (hf k hk').1 (hf k hk').2)
 have Hcode := Lib.hid (Rd.keep hcode (w' := w) (fun q hq => (hb3.cell hq).symm))
 have Hnext := Lib.hid (fun (W : World) (hW : Below w.heap.size w W) (k : Nat) => rnext_any Ai ci mm k W ((Hcode.out.below hW (Nat.le_refl _)).more hW.size) (by omega))
 have Hnx := Lib.hid hnx
 clear hr hv hf hk hcode hnx
 have HI0 := Lib.hid (VInv.start (p := p) hl0)
 have HC0 : Hid ((vstart mm).done.countP (fun d => !d) < mm.code.length + 1) := Lib.hid (Nat.lt_succ_of_le (Nat.le_trans (List.countP_le_length) (by simp [vstart])))
 have HP := Lib.hid (fun (gs ge : Nat) (mo co : Int) (Af : Option Addr) (nf cf : Nat) (w' : World) (h : (verM p mm).isSome = true ↔ co = 0) (h1 : ∀ s, verM p mm = some s → mo = s.most ∧ Blk w' gs 9 ⟨s.stacks.map Value.string⟩ ∧ Blk w' ge 4 ⟨s.seen.map Value.bool⟩) (h2 : w.heap.size ≤ gs) (h3 : w.heap.size ≤ ge) (h4 : Below w.heap.size w w') => (show RmetPost w mm.code.length (verM p mm) (.returned (.tuple #[.agg #[.slice (some ⟨ge, 0, none⟩) mm.code.length mm.code.length, .slice (some ⟨gs, 0, none⟩) mm.code.length mm.code.length, .int .i64 mo], .agg #[.int .i64 co, .slice Af nf cf]])) w' from ⟨gs, ge, mo, co, Af, nf, cf, rfl, h, h1, h2, h3, h4⟩))
 generalize RmetPost w mm.code.length (verM p mm) = Post at *
 go_enter Tryz.func64, Tryz.ntmps64
 go_upto_region 2 with (fail)
 have hz4 : ((((w.alloc (.cells #[.slice Ac p.classes.length cc, .slice (some ⟨b, off, none⟩) p.methods.length cm] 25)).alloc (.cells #[.slice none 0 0, .slice none 0 0, .int .i64 0] 142)).alloc (.cells #[.int .i64 0, .slice none 0 0] 75)).alloc (.cells #[.string mm.pa, .string mm.lo, .string mm.re, .slice Ai mm.code.length ci] 90)).heap.size = w.heap.size + 4 := by simp
 generalize ((((w.alloc (.cells #[.slice Ac p.classes.length cc, .slice (some ⟨b, off, none⟩) p.methods.length cm] 25)).alloc (.cells #[.slice none 0 0, .slice none 0 0, .int .i64 0] 142)).alloc (.cells #[.int .i64 0, .slice none 0 0] 75)).alloc (.cells #[.string mm.pa, .string mm.lo, .string mm.re, .slice Ai mm.code.length ci] 90)) = w4 at *
 have Hz4 := Lib.hid hz4
 clear hz4
 go_cut [7] from 20 to 28 (fun v wx => ∃ gs ge gx, v = .pointer (some ⟨gx, 0, none⟩) ∧ Blk wx gx 142 #[.slice (some ⟨gs, 0, none⟩) mm.code.length mm.code.length, .slice (some ⟨ge, 0, none⟩) mm.code.length mm.code.length, .int .i64 0] ∧ Blk wx gs 4 ⟨(List.replicate mm.code.length false).map Value.bool⟩ ∧ Blk wx ge 9 ⟨(List.replicate mm.code.length (⟨#[]⟩ : ByteArray)).map Value.string⟩ ∧ w4.heap.size ≤ gs ∧ w4.heap.size ≤ ge ∧ w4.heap.size ≤ gx ∧ gs ≠ ge ∧ gs ≠ gx ∧ ge ≠ gx ∧ Below w4.heap.size w4 wx)
 case first =>
  refine wpJ_start (S := Below w4.heap.size w4) (fun _ => true) (by kernel_rfl) (Below.refl _ _).drew (fun HS => ?_)
  refine takeQ 0 20 rfl HS (.inl ⟨rfl, fun W hW => by have hc := (bM4.below hW bM4.lt).at3; go_simp; rfl⟩) ?_
  simp only [pS]
  refine takeQ 1 21 rfl HS (.inl ⟨rfl, fun W hW => by have hc := (bM4.below hW bM4.lt).at3; go_simp; rfl⟩) ?_
  simp only [pS]
  refine takeQ 2 22 rfl HS (.inl ⟨rfl, fun W hW => by have hc := (bM4.below hW bM4.lt).at3; go_simp; rfl⟩) ?_
  simp only [pS]
  refine takeQ 4 24 rfl HS (.inl ⟨rfl, fun W hW => by have hc := (bM4.below hW bM4.lt).at3; go_simp; rfl⟩) ?_
  simp only [pS]
  refine takeQ 5 25 rfl HS (.inl ⟨rfl, fun W hW => by have hc := (bM4.below hW bM4.lt).at3; go_simp; rfl⟩) ?_
  simp only [pS]
  refine takeQ 6 26 rfl HS (.inl ⟨rfl, fun W hW => by have hc := (bM4.below hW bM4.lt).at3; go_simp; rfl⟩) ?_
  simp only [pS]
  refine wpAnyJ_lit2 (w0 := w4) (fuel := 1) 3 7 8 9 23 27 28 7 undef undef undef undef (fun v1 v2 => .agg #[v1, v2, .int .i64 0])
   (fun lo hi v W => lo + 1 = hi ∧ v = .slice (some ⟨lo, 0, none⟩) mm.code.length mm.code.length ∧ Blk W lo 4 ⟨(List.replicate mm.code.length false).map Value.bool⟩)
   (fun lo hi v W => lo + 1 = hi ∧ v = .slice (some ⟨lo, 0, none⟩) mm.code.length mm.code.length ∧ Blk W lo 9 ⟨(List.replicate mm.code.length (⟨#[]⟩ : ByteArray)).map Value.string⟩)
   (fun lo hi v W => lo + 1 = hi ∧ v = .pointer (some ⟨lo, 0, none⟩) ∧ Blk W lo 142 #[.slice none 0 0, .slice none 0 0, .int .i64 0])
   rfl rfl rfl rfl rfl rfl rfl rfl ?hA (by kernel_rfl) (by decide) (by decide) (by decide) (by decide) (by decide) (by decide) (by decide) (by decide) (by decide) (by decide) (by decide) (by decide) ?hr ?t1 ?t2 ?t3 ?s1 ?s2 ?s3 ?s4 ?more HS
  case hA => simp only [A4, Act.put, List.setIfInBounds_toArray, List.set_cons_zero, List.set_cons_succ]
  case hr =>
   intro b1 b2 b3 b4
   cases b1 <;> cases b2 <;> cases b3 <;> cases b4 <;> first | (intro h; cases h; done) | (intro _ h; cases (h rfl); done) | (intro _ _; kernel_rfl)
  case t1 =>
   rintro lo hi v W W' ⟨h1, rfl, h3⟩ hb
   exact ⟨h1, rfl, h3.below hb h3.lt⟩
  case t2 =>
   rintro lo hi v W W' ⟨h1, rfl, h3⟩ hb
   exact ⟨h1, rfl, h3.below hb h3.lt⟩
  case t3 =>
   rintro lo hi v W W' ⟨h1, rfl, h3⟩ hb
   exact ⟨h1, rfl, h3.below hb h3.lt⟩
  case s1 =>
   intro v2 v3 v4 w1 hb K hK
   simp only [A4, Act.put, List.setIfInBounds_toArray, List.set_cons_zero, List.set_cons_succ] at hK ⊢
   have HK := Lib.hid hK
   clear hK
   go_simp
   exact HK.out _ _ ((Below.refl _ _).alloc (Nat.le_refl _) _) ⟨by simp, rfl, by simpa using Blk.new w1 4 (Array.replicate mm.code.length (Value.bool false))⟩
  case s2 =>
   intro v1 v3 v4 w1 hb K hK
   simp only [A4, Act.put, List.setIfInBounds_toArray, List.set_cons_zero, List.set_cons_succ] at hK ⊢
   have HK := Lib.hid hK
   clear hK
   go_simp
   exact HK.out _ _ ((Below.refl _ _).alloc (Nat.le_refl _) _) ⟨by simp, rfl, by simpa using Blk.new w1 9 (Array.replicate mm.code.length (Value.string ⟨#[]⟩))⟩
  case s3 =>
   rintro v1 v2 v4 l1 h1 l2 h2 w1 hb ⟨-, rfl, -⟩ ⟨-, rfl, -⟩ K hK
   simp only [A4, Act.put, List.setIfInBounds_toArray, List.set_cons_zero, List.set_cons_succ] at hK ⊢
   have HK := Lib.hid hK
   clear hK
   go_simp
   exact HK.out
  case s4 =>
   intro v1 v2 v3 w1 hb K hK
   simp only [A4, Act.put, List.setIfInBounds_toArray, List.set_cons_zero, List.set_cons_succ] at hK ⊢
   have HK := Lib.hid hK
   clear hK
   go_simp
   exact HK.out _ _ ((Below.refl _ _).alloc (Nat.le_refl _) _) ⟨by simp, rfl, Blk.new _ _ _⟩
  case more =>
   rintro v1 v2 v3 lo1 hi1 lo2 hi2 lo3 hi3 w1 HS ⟨c1, rfl, c3⟩ c4 c5 c6 ⟨d1, rfl, d3⟩ d4 d5 d6 ⟨e1, rfl, e3⟩ e4 e5 e6 p12 p13 p23
   simp only [A4, Act.put, List.setIfInBounds_toArray, List.set_cons_zero, List.set_cons_succ]
   refine stepQ 10 rfl (fun K HK => ?_)
   have x0 := e3.at0
   have x1 := e3.at1
   have x2 := e3.at2
   have f0 := e3.frozen 0
   have f1 := e3.frozen 1
   have f2 := e3.frozen 2
   have hl3 := e3.lt
   go_simp
   have e5' := (((e3.set_ 0 (.slice (some ⟨lo1, 0, none⟩) mm.code.length mm.code.length)).set_ 1 (.slice (some ⟨lo2, 0, none⟩) mm.code.length mm.code.length)).set_ 2 (.int .i64 0))
   have c5' := (((c3.far (p := ⟨lo3, 0, none⟩) (by show lo1 ≠ lo3; omega) (.slice (some ⟨lo1, 0, none⟩) mm.code.length mm.code.length)).far (p := ⟨lo3, 1, none⟩) (by show lo1 ≠ lo3; omega) (.slice (some ⟨lo2, 0, none⟩) mm.code.length mm.code.length)).far (p := ⟨lo3, 2, none⟩) (by show lo1 ≠ lo3; omega) (.int .i64 0))
   have d5' := (((d3.far (p := ⟨lo3, 0, none⟩) (by show lo2 ≠ lo3; omega) (.slice (some ⟨lo1, 0, none⟩) mm.code.length mm.code.length)).far (p := ⟨lo3, 1, none⟩) (by show lo2 ≠ lo3; omega) (.slice (some ⟨lo2, 0, none⟩) mm.code.length mm.code.length)).far (p := ⟨lo3, 2, none⟩) (by show lo2 ≠ lo3; omega) (.int .i64 0))
   have hbS := ((HS.setCell (p := ⟨lo3, 0, none⟩) (by show w4.heap.size ≤ lo3; omega) (.slice (some ⟨lo1, 0, none⟩) mm.code.length mm.code.length)).setCell (p := ⟨lo3, 1, none⟩) (by show w4.heap.size ≤ lo3; omega) (.slice (some ⟨lo2, 0, none⟩) mm.code.length mm.code.length)).setCell (p := ⟨lo3, 2, none⟩) (by show w4.heap.size ≤ lo3; omega) (.int .i64 0)
   refine HK.out _ _ (fun _ => hbS) ?_
   clear HK
   refine wpAnyJ_done (by kernel_rfl) ?_ _
   go_wp2_with fail
   go_meet
   exact ⟨lo1, lo2, lo3, rfl, by simpa using e5', c5', d5', by omega, by omega, by omega, by omega, by omega, by omega, hbS⟩
 case rest =>
  obtain ⟨ge, gs, gx, rfl, bX, bE, bS, s2, s1, s3, n1', n3, n2, hb⟩ := hcut
  have n1 := Ne.symm n1'
  have hz4 := Hz4.out
  have bP5 := bP4.below hb bP4.lt
  have bM5 := bM4.below hb bM4.lt
  have bR5 := bR4.below hb bR4.lt
  have bF5 := bF4.below hb bF4.lt
  have hbw := hb4.trans (hb.mono (by omega))
  rw [hz4] at s1 s2 s3
  clear bP4 bM4 bR4 bF4 hb4 hb hz4 p0 p1 hb3 bP1
  clear Hz4
  obtain ⟨gd, hgd⟩ : ∃ gd, gd = wc.heap.size := ⟨_, rfl⟩
  have bD6 := Blk.newAt (w := wc) (g := gd) hgd.symm 4 ⟨(List.replicate mm.code.length false).map Value.bool⟩
  have bX6 := bX.alloc (.cells ⟨(List.replicate mm.code.length false).map Value.bool⟩ 4)
  have bS6 := bS.alloc (.cells ⟨(List.replicate mm.code.length false).map Value.bool⟩ 4)
  have bE6 := bE.alloc (.cells ⟨(List.replicate mm.code.length false).map Value.bool⟩ 4)
  have bP6 := bP5.alloc (.cells ⟨(List.replicate mm.code.length false).map Value.bool⟩ 4)
  have bM6 := bM5.alloc (.cells ⟨(List.replicate mm.code.length false).map Value.bool⟩ 4)
  have bR6 := bR5.alloc (.cells ⟨(List.replicate mm.code.length false).map Value.bool⟩ 4)
  have bF6 := bF5.alloc (.cells ⟨(List.replicate mm.code.length false).map Value.bool⟩ 4)
  have hb6 := hbw.alloc hbw.size (.cells ⟨(List.replicate mm.code.length false).map Value.bool⟩ 4)
  have n4 : gs ≠ gd := by have := bS.lt; omega
  have n5 : ge ≠ gd := by have := bE.lt; omega
  have n6 : gx ≠ gd := by have := bX.lt; omega
  have hgd4 : w.heap.size + 4 ≤ gd := by have := bM5.lt; omega
  have ym := bM5.at3
  have lm := bM5.lt
  go_upto_region 4 with (fail)
  rw [← hgd]
  have hrep : (Array.replicate mm.code.length (Value.bool false)) = ⟨(List.replicate mm.code.length false).map Value.bool⟩ := by simp
  first | rw [hrep] | skip
  clear bX bS bE bP5 bM5 bR5 bF5 hbw ym hgd lm hm1 hm2
  generalize wc.alloc (.cells ⟨(List.replicate mm.code.length false).map Value.bool⟩ 4) = w6 at *
  have x0 := bX6.at0
  have xe := bls_cell bE6 (k := 0) (by simpa using hl0)
  have fe := bE6.frozen 0
  have le := bE6.lt
  have lx := bX6.lt
  have l0i : (0 : Int) < mm.code.length := by omega
  go_upto_region 5 with (fail)
  have bE7 := bls_set bE6 0 true
  have bX7 := bX6.far (p := ⟨ge, 0, none⟩) (Ne.symm n3) (.bool true)
  have bS7 := bS6.far (p := ⟨ge, 0, none⟩) n1 (.bool true)
  have bD7 := bD6.far (p := ⟨ge, 0, none⟩) (Ne.symm n5) (.bool true)
  have bP7 := bP6.far (p := ⟨ge, 0, none⟩) (by show w.heap.size ≠ ge; omega) (.bool true)
  have bM7 := bM6.far (p := ⟨ge, 0, none⟩) (by show w.heap.size + 1 + 1 + 1 ≠ ge; omega) (.bool true)
  have bR7 := bR6.far (p := ⟨ge, 0, none⟩) (by show w.heap.size + 1 ≠ ge; omega) (.bool true)
  have bF7 := bF6.far (p := ⟨ge, 0, none⟩) (by show w.heap.size + 1 + 1 ≠ ge; omega) (.bool true)
  have hb7 := hb6.setCell (p := ⟨ge, 0, none⟩) (by show w.heap.size ≤ ge; omega) (.bool true)
  clear bE6 bX6 bS6 bD6 bP6 bM6 bR6 bF6 hb6 x0 xe fe le lx
  generalize w6.setCell ⟨ge, 0, none⟩ (.bool true) = w7 at *
  go_loopg [9] (mm.code.length + 1) (fun k pv wr => ∃ s' : Vs, Hid (verM p mm = vrun p mm k s') ∧ Hid (VInv p mm s') ∧ Hid (s'.done.countP (fun d => !d) < k) ∧ Blk wr gx 142 #[.slice (some ⟨ge, 0, none⟩) mm.code.length mm.code.length, .slice (some ⟨gs, 0, none⟩) mm.code.length mm.code.length, .int .i64 s'.most] ∧ Blk wr gs 9 ⟨s'.stacks.map Value.string⟩ ∧ Blk wr ge 4 ⟨s'.seen.map Value.bool⟩ ∧ Blk wr gd 4 ⟨s'.done.map Value.bool⟩ ∧ Hid (KB (fun b => b < w.heap.size + 4) w7 wr) ∧ Below w.heap.size w wr)
  case atStart => exact ⟨vstart mm, Lib.hid rfl, HI0, HC0, bX7, bS7, bE7, bD7, Lib.hid (KB.refl _ _), hb7⟩
  case round =>
   clear bX7 bS7 bE7 bD7 hb7
   obtain ⟨s', HR, HI, HC, bX, bS, bE, bD, K, hb⟩ := hrel
   have bM := bM7.kb K.out (by omega)
   have bP := bP7.kb K.out (by omega)
   have bR := bR7.kb K.out (by omega)
   have bF := bF7.kb K.out (by omega)
   have ym := bM.at3
   have x0 := bX.at0
   have x1 := bX.at1
   have x2 := bX.at2
   have l1 := HI.out.l1
   have l2 := HI.out.l2
   have l3 := HI.out.l3
   have lM := bM.lt
   have lX := bX.lt
   have lD := bD.lt
   have lE := bE.lt
   generalize wr = wo at *
   go_wp2
   go_loopw [9] (fun pv w2 => ∃ pc : Nat, pc ≤ mm.code.length ∧ pv = .int .i64 pc ∧ Hid (∀ j, j < pc → (s'.seen.getD j false && !s'.done.getD j false) = false) ∧ w2 = wo) (fun pv _ => mm.code.length - (intOf pv).toNat)
   case atStart => exact ⟨0, Nat.zero_le _, rfl, Lib.hid (fun j h => by omega), rfl⟩
   case round =>
    obtain ⟨pc, hpc, rfl, Hpc, rfl⟩ := hrel
    by_cases hlt : pc < mm.code.length
    · have k2 : (0 : Int) ≤ pc := by omega
      have k3 : (pc : Int) < mm.code.length := by omega
      have ye := bls_cell bE (show pc < s'.seen.length by omega)
      have yd := bls_cell bD (show pc < s'.done.length by omega)
      have fd := bD.frozen pc
      generalize ha' : s'.seen.getD pc false = a at *
      generalize hd' : s'.done.getD pc false = d at *
      have Hrel : (a && !d) = false → Hid (∀ j, j < pc + 1 → (s'.seen.getD j false && !s'.done.getD j false) = false) := fun h => Lib.hid (fun j hj => by
       by_cases e : j = pc
       · subst e; rw [ha', hd']; exact h
       · exact Hpc.out j (by omega))
      have Hha := Lib.hid ha'
      have Hhd := Lib.hid hd'
      clear ha' hd'
      cases d with
      | true =>
        have Hr := Hrel (by simp)
        clear Hrel
        go_wp2
        go_roundw
        case rel => exact ⟨pc + 1, by omega, by go_num, Hr, by trivial⟩
        case measure => simp [intOf]; omega
      | false =>
        cases a with
        | false =>
          have Hr := Hrel rfl
          clear Hrel
          go_wp2
          go_roundw
          case rel => exact ⟨pc + 1, by omega, by go_num, Hr, by trivial⟩
          case measure => simp [intOf]; omega
        | true =>
          clear Hrel
          have hpick := pick_at (s := s') (n := mm.code.length) (pc := pc) (by omega) Hpc.out (fun _ => by rw [Hha.out, Hhd.out]; rfl)
          have Hpk := Lib.hid hpick
          have g0 : ((pc : Int) == mm.code.length) = false := by simp; omega
          have g1 : (pc == mm.code.length) = false := by simp; omega
          clear hpick
          obtain ⟨f', hf'⟩ : ∃ f', gk = f' + 1 := by
           cases f : gk with
           | zero => have := HC.out; omega
           | succ f' => exact ⟨f', rfl⟩
          have hrun := HR.out
          rw [hf'] at hrun
          unfold vrun at hrun
          rw [if_neg (by rw [Hpk.out]; omega), Hpk.out] at hrun
          have Hrun := Lib.hid hrun
          clear hrun
          have HF1 := Lib.hid (show aftF p mm (mm.code.getD pc default) (s'.stacks.getD pc ⟨#[]⟩) = none → verM p mm = none from fun h => by
           have h1 := Hrun.out
           unfold lookF at h1
           simpa only [h] using h1)
          have HF2 := Lib.hid (show ∀ b, aftF p mm (mm.code.getD pc default) (s'.stacks.getD pc ⟨#[]⟩) = some b → flowTo mm.code.length b (nextF mm pc) s'.stacks s'.seen = none → verM p mm = none from fun b h h2 => by
           have h1 := Hrun.out
           unfold lookF at h1
           simpa only [h, h2] using h1)
          have HF3 := Lib.hid (show ∀ b st2 se2, aftF p mm (mm.code.getD pc default) (s'.stacks.getD pc ⟨#[]⟩) = some b → flowTo mm.code.length b (nextF mm pc) s'.stacks s'.seen = some (st2, se2) → verM p mm = vrun p mm f' ⟨st2, se2, s'.done.set pc true, max (max s'.most (s'.stacks.getD pc ⟨#[]⟩).size) b.size⟩ ∧ VInv p mm ⟨st2, se2, s'.done.set pc true, max (max s'.most (s'.stacks.getD pc ⟨#[]⟩).size) b.size⟩ from fun b st2 se2 h h2 => by
           have hl : lookF p mm s' pc = some ⟨st2, se2, s'.done.set pc true, max (max s'.most (s'.stacks.getD pc ⟨#[]⟩).size) b.size⟩ := by
            unfold lookF
            simp only [h, h2]
           have h1 := Hrun.out
           rw [hl] at h1
           exact ⟨h1, HI.out.look Hnx.out hlt Hha.out hl⟩)
          have ys := strs_cell bS (show pc < s'.stacks.length by omega)
          have Hgk := Lib.hid hf'
          clear hf' ym
          have ym := bM.at3
          go_upto_region 11 with (fail)
          have bD2 := bls_set bD pc true
          have bX2 := bX.far (p := ⟨gd, pc, none⟩) n6 (.bool true)
          have bS2 := bS.far (p := ⟨gd, pc, none⟩) n4 (.bool true)
          have bE2 := bE.far (p := ⟨gd, pc, none⟩) n5 (.bool true)
          have bP2 := bP.far (p := ⟨gd, pc, none⟩) (by show w.heap.size ≠ gd; omega) (.bool true)
          have bM2 := bM.far (p := ⟨gd, pc, none⟩) (by show w.heap.size + 1 + 1 + 1 ≠ gd; omega) (.bool true)
          have bR2 := bR.far (p := ⟨gd, pc, none⟩) (by show w.heap.size + 1 ≠ gd; omega) (.bool true)
          have bF2 := bF.far (p := ⟨gd, pc, none⟩) (by show w.heap.size + 1 + 1 ≠ gd; omega) (.bool true)
          have K2 := Lib.hid (K.out.set (p := ⟨gd, pc, none⟩) (by show ¬ gd < w.heap.size + 4; omega) (.bool true))
          have hb2 := hb.setCell (p := ⟨gd, pc, none⟩) (by show w.heap.size ≤ gd; omega) (.bool true)
          clear bD bX bS bE bP bM bR bF K hb x0 x1 x2 ym ye yd ys fd lM lX lD lE
          generalize wr.setCell ⟨gd, pc, none⟩ (.bool true) = w8 at *
          obtain ⟨bc, of2, hA, hbc, z0, z1, z2, z3⟩ := ins_at (Hcode.out.below hb2 (Nat.le_refl _)) hlt
          subst hA
          have hle := HI.out.le pc
          have Hsp := Lib.hid (fun W hW => Hstep.out W hW pc hlt (s'.stacks.getD pc ⟨#[]⟩) hle)
          generalize mm.code.getD pc default = x at *
          generalize hst : s'.stacks.getD pc ⟨#[]⟩ = st at *
          have Hst := Lib.hid hst
          clear hst hle
          refine wpJ_start (S := Below w8.heap.size w8) (fun _ => true) (by kernel_rfl) (Below.refl _ _).drew (fun HS => ?_)
          refine takeQ 0 68 rfl HS (.inl ⟨rfl, fun W hW => by have hc := (bP2.below hW bP2.lt).at0; have hc := (bP2.below hW bP2.lt).at1; go_simp; rfl⟩) ?_
          simp only [pS]
          refine takeQ 1 69 rfl HS (.inl ⟨rfl, fun W hW => by go_simp; rfl⟩) ?_
          simp only [pS]
          refine takeQ 2 70 rfl HS (.inl ⟨rfl, fun W hW => by go_simp; rfl⟩) ?_
          simp only [pS]
          refine takeQ 3 71 rfl HS (.inl ⟨rfl, fun W hW => by have hc := (bM2.below hW bM2.lt).at3; go_simp; rfl⟩) ?_
          simp only [pS]
          refine takeQ 4 72 rfl HS (.inl ⟨rfl, fun W hW => by go_simp; rfl⟩) ?_
          simp only [pS]
          refine takeQ 5 73 rfl HS (.inl ⟨rfl, fun W hW => by go_simp; rfl⟩) ?_
          simp only [pS]
          refine takeQ 6 74 rfl HS (.inl ⟨rfl, fun W hW => by have h0 := (hW.cell (p := ⟨bc, of2 + pc * 4, none⟩) (Nat.lt_of_lt_of_le hbc hb2.size)).trans z0; have h1 := (hW.cell (p := ⟨bc, of2 + pc * 4 + 1, none⟩) (Nat.lt_of_lt_of_le hbc hb2.size)).trans z1; have h2 := (hW.cell (p := ⟨bc, of2 + pc * 4 + 2, none⟩) (Nat.lt_of_lt_of_le hbc hb2.size)).trans z2; have h3 := (hW.cell (p := ⟨bc, of2 + pc * 4 + 3, none⟩) (Nat.lt_of_lt_of_le hbc hb2.size)).trans z3; go_simp; rfl⟩) ?_
          simp only [pS]
          refine takeQ 7 75 rfl HS (.inl ⟨rfl, fun W hW => by go_simp; rfl⟩) ?_
          simp only [pS]
          refine takeQ 8 76 rfl HS (.inl ⟨rfl, fun W hW => by have hc := (bX2.below hW bX2.lt).at1; go_simp; rfl⟩) ?_
          simp only [pS]
          refine takeQ 9 77 rfl HS (.inl ⟨rfl, fun W hW => by go_simp; rfl⟩) ?_
          simp only [pS]
          refine takeQ 10 78 rfl HS (.inl ⟨rfl, fun W hW => by go_simp; rfl⟩) ?_
          simp only [pS]
          refine takeQ 11 79 rfl HS (.inl ⟨rfl, fun W hW => by have hc := strs_cell (bS2.below hW bS2.lt) (show pc < s'.stacks.length by omega); rw [Hst.out] at hc; go_simp; rfl⟩) ?_
          simp only [pS]
          refine stepQ 12 rfl (fun K HK => ?_)
          go_simp
          refine (Hsp.out w8.drew hb2.drew).mono ?_
          rintro e w9 ⟨co, rfl, hco, hb89⟩
          have hb89' : Below w8.heap.size w8 w9 := (Below.refl _ _).drew.trans hb89
          refine HK.out _ _ (fun _ => hb89') ?_
          clear HK HS
          refine takeQ 13 67 rfl hb89' (.inl ⟨rfl, fun W hW => by go_simp; rfl⟩) ?_
          simp only [pS]
          refine takeQ 14 81 rfl hb89' (.inl ⟨rfl, fun W hW => by go_simp; rfl⟩) ?_
          simp only [pS]
          refine takeQ 15 82 rfl hb89' (.inl ⟨rfl, fun W hW => by go_simp; rfl⟩) ?_
          simp only [pS]
          refine takeQ 16 10 rfl hb89' (.inl ⟨rfl, fun W hW => by go_simp; rfl⟩) ?_
          simp only [pS]
          refine takeQ 17 11 rfl hb89' (.inl ⟨rfl, fun W hW => by go_simp; rfl⟩) ?_
          simp only [pS]
          refine wpAnyJ_done (by kernel_rfl) ?_ _
          have bD3 := bD2.below hb89' bD2.lt
          have bX3 := bX2.below hb89' bX2.lt
          have bS3 := bS2.below hb89' bS2.lt
          have bE3 := bE2.below hb89' bE2.lt
          have bM3 := bM2.below hb89' bM2.lt
          have bR3 := bR2.below hb89' bR2.lt
          have bF3 := bF2.below hb89' bF2.lt
          have hb3 := hb2.trans (hb89'.mono hb2.size)
          have K3 := Lib.hid (K2.out.below hb89' (fun b h => by have := bD2.lt; omega))
          clear bD2 bX2 bS2 bE2 bM2 bR2 bF2 hb2 K2 bP2 z0 z1 z2 z3 hb89 hb89' Hsp
          cases hA : aftF p mm x st with
          | none =>
            have hc0 : co ≠ 0 := fun e => by have := hco.2 e; rw [hA] at this; cases this
            have hnone := HF1.out hA
            have g3 : (co != 0) = true := by simpa using hc0
            have Hc0 := Lib.hid hc0
            have Hnone := Lib.hid hnone
            clear hnone hc0 hco hA HF1 HF2 HF3
            simp only [Option.getD_none]
            go_upto_region 13 with (fail)
            refine wpJ_start (S := fun W => Blk W gx 142 #[.slice (some ⟨ge, 0, none⟩) mm.code.length mm.code.length, .slice (some ⟨gs, 0, none⟩) mm.code.length mm.code.length, .int .i64 ((s'.most : Nat) : Int)]) (fun q => decide (q ≤ 5)) (by kernel_rfl) bX3 (fun HS => ?_)
            refine takeQ 0 85 rfl HS (.inl ⟨rfl, fun W hW => by have h0 := hW.at0; have h1 := hW.at1; have h2 := hW.at2; go_simp; rfl⟩) ?_
            simp only [pS]
            refine takeQ 1 86 rfl HS (.inl ⟨rfl, fun W hW => by go_simp; rfl⟩) ?_
            simp only [pS]
            refine takeQ 2 87 rfl HS (.inl ⟨rfl, fun W hW => by go_simp; rfl⟩) ?_
            simp only [pS]
            refine takeQ 3 88 rfl HS (.inl ⟨rfl, fun W hW => by go_simp; rfl⟩) ?_
            simp only [pS]
            refine stepQ 4 rfl (fun K HK => ?_)
            go_simp
            refine (there_any _ _ _ _).mono ?_
            rintro e wz ⟨gt, rfl, hgt, hb9'⟩
            have hb9 : Below w9.heap.size w9 wz := (Below.refl _ _).drew.trans hb9'
            have bX9 := bX3.below hb9 bX3.lt
            refine HK.out _ _ (fun _ => bX9) ?_
            clear HK HS hb9'
            try simp only [pS]
            have bR9 := bR3.below hb9 bR3.lt
            have bF9 := bF3.below hb9 bF3.lt
            have fr0 := bR9.frozen 0
            have fr1 := bR9.frozen 1
            have fr2 := bR9.frozen 2
            have ff0 := bF9.frozen 0
            have ff1 := bF9.frozen 1
            have r0 := bR9.at0
            have r1 := bR9.at1
            have r2 := bR9.at2
            have f0 := bF9.at0
            have f1 := bF9.at1
            have lR := bR9.lt
            have lF := bF9.lt
            have hbw9 := hb3.trans (hb9.mono hb3.size)
            refine stepQ 5 rfl (fun K HK => ?_)
            go_simp
            have hne : w.heap.size + 1 + 1 ≠ w.heap.size + 1 := by omega
            have bF9' := (((bF9.far (p := ⟨w.heap.size + 1, 0, none⟩) (by show w.heap.size + 1 + 1 ≠ w.heap.size + 1; omega) (.slice (some ⟨ge, 0, none⟩) mm.code.length mm.code.length)).far (p := ⟨w.heap.size + 1, 1, none⟩) (by show w.heap.size + 1 + 1 ≠ w.heap.size + 1; omega) (.slice (some ⟨gs, 0, none⟩) mm.code.length mm.code.length)).far (p := ⟨w.heap.size + 1, 2, none⟩) (by show w.heap.size + 1 + 1 ≠ w.heap.size + 1; omega) (.int .i64 ((s'.most : Nat) : Int)))
            have bR9' := (((bR9.set_ 0 (.slice (some ⟨ge, 0, none⟩) mm.code.length mm.code.length)).set_ 1 (.slice (some ⟨gs, 0, none⟩) mm.code.length mm.code.length)).set_ 2 (.int .i64 ((s'.most : Nat) : Int)))
            have hbw9' := (((hbw9.setCell (p := ⟨w.heap.size + 1, 0, none⟩) (by show w.heap.size ≤ w.heap.size + 1; omega) (.slice (some ⟨ge, 0, none⟩) mm.code.length mm.code.length)).setCell (p := ⟨w.heap.size + 1, 1, none⟩) (by show w.heap.size ≤ w.heap.size + 1; omega) (.slice (some ⟨gs, 0, none⟩) mm.code.length mm.code.length)).setCell (p := ⟨w.heap.size + 1, 2, none⟩) (by show w.heap.size ≤ w.heap.size + 1; omega) (.int .i64 ((s'.most : Nat) : Int)))
            have hnx9 : gx ≠ w.heap.size + 1 := by omega
            have bX9' := ((bX9.far (p := ⟨w.heap.size + 1, 0, none⟩) hnx9 (.slice (some ⟨ge, 0, none⟩) mm.code.length mm.code.length)).far (p := ⟨w.heap.size + 1, 1, none⟩) hnx9 (.slice (some ⟨gs, 0, none⟩) mm.code.length mm.code.length)).far (p := ⟨w.heap.size + 1, 2, none⟩) hnx9 (.int .i64 ((s'.most : Nat) : Int))
            refine HK.out _ _ (fun _ => bX9') ?_
            clear HK bX9 fr0 fr1 fr2 ff0 ff1 r0 r1 r2 f0 f1 lR lF bR9 bF9 hbw9 hb9
            generalize (((wz.setCell ⟨w.heap.size + 1, 0, none⟩ (.slice (some ⟨ge, 0, none⟩) mm.code.length mm.code.length)).setCell ⟨w.heap.size + 1, 1, none⟩ (.slice (some ⟨gs, 0, none⟩) mm.code.length mm.code.length)).setCell ⟨w.heap.size + 1, 2, none⟩ (.int .i64 ((s'.most : Nat) : Int))) = w10 at *
            have ff0 := bF9'.frozen 0
            have ff1 := bF9'.frozen 1
            have f0 := bF9'.at0
            have f1 := bF9'.at1
            have lF := bF9'.lt
            refine stepQ 6 rfl (fun K HK => ?_)
            go_simp
            have q := fun (g : Nat) (T : TypeId) (cs : Array Value) (B : Blk w10 g T cs) (hg : g ≠ w.heap.size + 1 + 1) => (B.far (p := ⟨w.heap.size + 1 + 1, 0, none⟩) hg (.int .i64 co)).far (p := ⟨w.heap.size + 1 + 1, 1, none⟩) hg (.slice (some ⟨gt, 0, none⟩) 2 2)
            have bR10 := q _ _ _ bR9' (by omega)
            have bF10 := (bF9'.set_ 0 (.int .i64 co)).set_ 1 (.slice (some ⟨gt, 0, none⟩) 2 2)
            have hb10 := (hbw9'.setCell (p := ⟨w.heap.size + 1 + 1, 0, none⟩) (by show w.heap.size ≤ w.heap.size + 1 + 1; omega) (.int .i64 co)).setCell (p := ⟨w.heap.size + 1 + 1, 1, none⟩) (by show w.heap.size ≤ w.heap.size + 1 + 1; omega) (.slice (some ⟨gt, 0, none⟩) 2 2)
            refine HK.out _ _ (fun h => by simp at h) ?_
            clear HK q f0 f1 ff0 ff1 lF
            have q0 := bR10.at0
            have q1 := bR10.at1
            have q2 := bR10.at2
            have q3 := bF10.at0
            have q4 := bF10.at1
            generalize (w10.setCell ⟨w.heap.size + 1 + 1, 0, none⟩ (.int .i64 co)).setCell ⟨w.heap.size + 1 + 1, 1, none⟩ (.slice (some ⟨gt, 0, none⟩) 2 2) = w11 at *
            refine wpAnyJ_done (by kernel_rfl) ?_ _
            go_wp2
            refine bodyPost_ret (v := .tuple #[.agg #[.slice (some ⟨ge, 0, none⟩) mm.code.length mm.code.length, .slice (some ⟨gs, 0, none⟩) mm.code.length mm.code.length, .int .i64 ((s'.most : Nat) : Int)], .agg #[.int .i64 co, .slice (some ⟨gt, 0, none⟩) 2 2]]) (by simp [results, Tryz.results64, go_sem, q0, q1, q2, q3, q4]) rfl ?_
            exact HP.out gs ge ((s'.most : Nat) : Int) co (some ⟨gt, 0, none⟩) 2 2 _ (by rw [Hnone.out]; simp [Hc0.out]) (fun s hs => by rw [Hnone.out] at hs; cases hs) (by omega) (by omega) hb10
          | some b =>
            have hc0 : co = 0 := hco.1 (by rw [hA]; rfl)
            subst hc0
            have HG2 := Lib.hid (fun h => HF2.out b hA h)
            have HG3 := Lib.hid (fun st2 se2 h => HF3.out b st2 se2 hA h)
            clear hco hA HF1 HF2 HF3
            simp only [Option.getD_some]
            go_upto_region 14 with (fail)
            have x1 := bX3.at1
            have x2 := bX3.at2
            have ys := strs_cell bS3 (show pc < s'.stacks.length by omega)
            rw [Hst.out] at ys
            have fx2 := bX3.frozen 2
            have lX := bX3.lt
            refine wpJ_start (S := fun W => W.cell? ⟨gx, 2, none⟩ = some (.int .i64 s'.most) ∧ W.cell? ⟨gx, 1, none⟩ = some (.slice (some ⟨gs, 0, none⟩) mm.code.length mm.code.length) ∧ W.cell? ⟨gs, pc, none⟩ = some (.string st)) (fun j => !(j == 12)) (by kernel_rfl) ⟨x2, x1, ys⟩ (fun HS => ?_)
            refine takeQ 0 90 rfl HS (.inl ⟨rfl, fun W hW => by obtain ⟨hW1, hW2, hW3⟩ := hW; go_simp; rfl⟩) ?_
            simp only [pS]
            refine takeQ 1 91 rfl HS (.inl ⟨rfl, fun W hW => by obtain ⟨hW1, hW2, hW3⟩ := hW; go_simp; rfl⟩) ?_
            simp only [pS]
            refine takeQ 2 92 rfl HS (.inl ⟨rfl, fun W hW => by obtain ⟨hW1, hW2, hW3⟩ := hW; go_simp; rfl⟩) ?_
            simp only [pS]
            refine takeQ 3 93 rfl HS (.inl ⟨rfl, fun W hW => by obtain ⟨hW1, hW2, hW3⟩ := hW; go_simp; rfl⟩) ?_
            simp only [pS]
            refine takeQ 4 94 rfl HS (.inl ⟨rfl, fun W hW => by obtain ⟨hW1, hW2, hW3⟩ := hW; go_simp; rfl⟩) ?_
            simp only [pS]
            refine takeQ 5 95 rfl HS (.inl ⟨rfl, fun W hW => by obtain ⟨hW1, hW2, hW3⟩ := hW; go_simp; rfl⟩) ?_
            simp only [pS]
            refine takeQ 6 96 rfl HS (.inl ⟨rfl, fun W hW => by obtain ⟨hW1, hW2, hW3⟩ := hW; go_simp; rfl⟩) ?_
            simp only [pS]
            refine takeQ 7 97 rfl HS (.inl ⟨rfl, fun W hW => by obtain ⟨hW1, hW2, hW3⟩ := hW; go_simp; rfl⟩) ?_
            simp only [pS]
            refine takeQ 8 98 rfl HS (.inl ⟨rfl, fun W hW => by obtain ⟨hW1, hW2, hW3⟩ := hW; go_simp; rfl⟩) ?_
            simp only [pS]
            refine takeQ 9 99 rfl HS (.inl ⟨rfl, fun W hW => by obtain ⟨hW1, hW2, hW3⟩ := hW; go_simp; rfl⟩) ?_
            simp only [pS]
            refine takeQ 10 100 rfl HS (.inl ⟨rfl, fun W hW => by obtain ⟨hW1, hW2, hW3⟩ := hW; go_simp; rfl⟩) ?_
            simp only [pS]
            refine takeQ 11 101 rfl HS (.inl ⟨rfl, fun W hW => by obtain ⟨hW1, hW2, hW3⟩ := hW; go_simp; rfl⟩) ?_
            simp only [pS]
            refine stepQ 12 rfl (fun K HK => ?_)
            clear HS
            go_simp
            refine HK.out _ _ (fun h => by cases h) ?_
            clear HK
            refine wpAnyJ_done (by kernel_rfl) ?_ _
            rw [max3, show max (max s'.most b.size) st.size = max (max s'.most st.size) b.size by omega]
            have bX4 := bX3.set_ 2 (.int .i64 ((max (max s'.most st.size) b.size : Nat) : Int))
            have bS4 := bS3.far (p := ⟨gx, 2, none⟩) n2 (.int .i64 ((max (max s'.most st.size) b.size : Nat) : Int))
            have bE4 := bE3.far (p := ⟨gx, 2, none⟩) n3 (.int .i64 ((max (max s'.most st.size) b.size : Nat) : Int))
            have bD4 := bD3.far (p := ⟨gx, 2, none⟩) (Ne.symm n6) (.int .i64 ((max (max s'.most st.size) b.size : Nat) : Int))
            have bM4 := bM3.far (p := ⟨gx, 2, none⟩) (by show w.heap.size + 1 + 1 + 1 ≠ gx; omega) (.int .i64 ((max (max s'.most st.size) b.size : Nat) : Int))
            have bR4 := bR3.far (p := ⟨gx, 2, none⟩) (by show w.heap.size + 1 ≠ gx; omega) (.int .i64 ((max (max s'.most st.size) b.size : Nat) : Int))
            have bF4 := bF3.far (p := ⟨gx, 2, none⟩) (by show w.heap.size + 1 + 1 ≠ gx; omega) (.int .i64 ((max (max s'.most st.size) b.size : Nat) : Int))
            have hb4 := hb3.setCell (p := ⟨gx, 2, none⟩) (by show w.heap.size ≤ gx; omega) (.int .i64 ((max (max s'.most st.size) b.size : Nat) : Int))
            have K4 := Lib.hid (K3.out.set (p := ⟨gx, 2, none⟩) (by show ¬ gx < w.heap.size + 4; omega) (.int .i64 ((max (max s'.most st.size) b.size : Nat) : Int)))
            clear bX3 bS3 bE3 bD3 bM3 bR3 bF3 hb3 K3 x1 x2 ys fx2
            simp only [List.setIfInBounds_toArray, List.set_cons_zero, List.set_cons_succ] at bX4
            generalize w9.setCell ⟨gx, 2, none⟩ (.int .i64 ((max (max s'.most st.size) b.size : Nat) : Int)) = wA at *
            have z0 := bM4.at0
            have z1 := bM4.at1
            have z2 := bM4.at2
            have z3 := bM4.at3
            have lM := bM4.lt
            generalize hM' : max (max s'.most st.size) b.size = most' at *
            have HM' := Lib.hid hM'
            clear hM'
            go_wp2_with fail
            refine (Hnext.out wA.drew hb4.drew pc).mono ?_
            rintro e wB ⟨A2, n9, c9, hn9, rfl, hrd, hb89⟩
            have hb89' : Below wA.heap.size wA wB := (Below.refl _ _).drew.trans hb89
            have bX5' := bX4.below hb89' bX4.lt
            have bS5' := bS4.below hb89' bS4.lt
            have bE5' := bE4.below hb89' bE4.lt
            have bD5' := bD4.below hb89' bD4.lt
            have bM5' := bM4.below hb89' bM4.lt
            have bR5' := bR4.below hb89' bR4.lt
            have bF5' := bF4.below hb89' bF4.lt
            have hb5' := hb4.trans (hb89'.mono hb4.size)
            have K5 := Lib.hid (K4.out.below hb89' (fun b h => by have := bD4.lt; omega))
            have hrow := rd_apart hrd bS5' bE5'
            have hnl : (nextF mm pc).length = n9 := by have := hrd.1; simpa [ints] using this
            have Hnn := Lib.hid (Hnx.out pc hlt)
            generalize nextF mm pc = nx at *
            subst hnl
            clear bX4 bS4 bE4 bD4 bM4 bR4 bF4 hb4 K4 z0 z1 z2 z3 lM hb89 hb89' hrd
            go_wp2
            go_loopw [13] (fun jv wr => ∃ (j : Nat) (sk : List ByteArray) (ek : List Bool), j ≤ nx.length ∧ jv = .int .i64 j ∧ Hid (flowTo mm.code.length b nx s'.stacks s'.seen = flowTo mm.code.length b (nx.drop j) sk ek) ∧ sk.length = mm.code.length ∧ ek.length = mm.code.length ∧ Blk wr gs 9 ⟨sk.map Value.string⟩ ∧ Blk wr ge 4 ⟨ek.map Value.bool⟩ ∧ Hid (KB (fun b => b ≠ gs ∧ b ≠ ge ∧ b < wB.heap.size) wB wr) ∧ Below w.heap.size w wr) (fun jv _ => nx.length - (intOf jv).toNat)
            case atStart => exact ⟨0, s'.stacks, s'.seen, Nat.zero_le _, rfl, Lib.hid rfl, l1, l2, bS5', bE5', Lib.hid (KB.refl _ _), hb5'⟩
            case round =>
             clear bS5' bE5' hb5'
             obtain ⟨j, sk, ek, hj, rfl, HF, lk1, lk2, bS, bE, K6, hb⟩ := hrel
             have bX := bX5'.kb K6.out ⟨Ne.symm n2, Ne.symm n3, bX5'.lt⟩
             have bM := bM5'.kb K6.out ⟨by omega, by omega, bM5'.lt⟩
             have bR := bR5'.kb K6.out ⟨by omega, by omega, bR5'.lt⟩
             have bF := bF5'.kb K6.out ⟨by omega, by omega, bF5'.lt⟩
             have x0 := bX.at0
             have x1 := bX.at1
             have ym := bM.at3
             have lX := bX.lt
             have lE := bE.lt
             have lM := bM.lt
             by_cases hjl : j < nx.length
             · have j0 : (0 : Int) ≤ j := by omega
               have j1 : (j : Int) < nx.length := by omega
               obtain ⟨v, hv⟩ : ∃ v, nx[j]? = some v := ⟨_, List.getElem?_eq_getElem hjl⟩
               have hv0 := Hnn.out v (List.mem_of_getElem? hv)
               have hF := HF.out
               rw [List.drop_eq_getElem_cons hjl] at hF
               have hve : nx[j] = v := by rw [List.getElem?_eq_getElem hjl] at hv; exact Option.some.inj hv
               rw [hve] at hF
               obtain ⟨br, orr, hA2, hbr, y0⟩ := ints_at ((hrow.keep (K6.out.kept.sub (fun b h => h))).rd (B := wB.heap.size) (fun b h => h.2.2)) (k := j) hjl
               subst hA2
               have hqv : nx[j]?.getD 0 = v := by rw [hv]; rfl
               rw [hqv] at y0
               rw [flowTo_cons] at hF
               by_cases hvn : (mm.code.length : Int) ≤ v
               · rw [if_pos hvn] at hF
                 have Hnone := Lib.hid (HG2.out hF)
                 have gv : decide ((mm.code.length : Int) ≤ v) = true := by simpa using hvn
                 clear hF HF hv hve hqv hvn HG2 HG3
                 go_upto_region 21 with (fail)
                 refine wpJ_start (S := fun W => Blk W gx 142 #[.slice (some ⟨ge, 0, none⟩) mm.code.length mm.code.length, .slice (some ⟨gs, 0, none⟩) mm.code.length mm.code.length, .int .i64 ((most' : Nat) : Int)]) (fun q => decide (q ≤ 4)) (by kernel_rfl) bX (fun HS => ?_)
                 refine takeQ 0 120 rfl HS (.inl ⟨rfl, fun W hW => by have h0 := hW.at0; have h1 := hW.at1; have h2 := hW.at2; go_simp; rfl⟩) ?_
                 simp only [pS]
                 refine takeQ 1 121 rfl HS (.inl ⟨rfl, fun W hW => by go_simp; rfl⟩) ?_
                 simp only [pS]
                 refine takeQ 2 122 rfl HS (.inl ⟨rfl, fun W hW => by go_simp; rfl⟩) ?_
                 simp only [pS]
                 refine stepQ 3 rfl (fun K HK => ?_)
                 go_simp
                 refine (there_any _ _ _ _).mono ?_
                 rintro e wz ⟨gt, rfl, hgt, hb9'⟩
                 have hb9 : Below wr.heap.size wr wz := (Below.refl _ _).drew.trans hb9'
                 have bX9 := bX.below hb9 bX.lt
                 refine HK.out _ _ (fun _ => bX9) ?_
                 clear HK HS hb9'
                 try simp only [pS]
                 have bR9 := bR.below hb9 bR.lt
                 have bF9 := bF.below hb9 bF.lt
                 have fr0 := bR9.frozen 0
                 have fr1 := bR9.frozen 1
                 have fr2 := bR9.frozen 2
                 have ff0 := bF9.frozen 0
                 have ff1 := bF9.frozen 1
                 have r0 := bR9.at0
                 have r1 := bR9.at1
                 have r2 := bR9.at2
                 have f0 := bF9.at0
                 have f1 := bF9.at1
                 have lR := bR9.lt
                 have lF := bF9.lt
                 have hbw9 := hb.trans (hb9.mono hb.size)
                 refine stepQ 4 rfl (fun K HK => ?_)
                 go_simp
                 have hne : w.heap.size + 1 + 1 ≠ w.heap.size + 1 := by omega
                 have bF9' := (((bF9.far (p := ⟨w.heap.size + 1, 0, none⟩) (by show w.heap.size + 1 + 1 ≠ w.heap.size + 1; omega) (.slice (some ⟨ge, 0, none⟩) mm.code.length mm.code.length)).far (p := ⟨w.heap.size + 1, 1, none⟩) (by show w.heap.size + 1 + 1 ≠ w.heap.size + 1; omega) (.slice (some ⟨gs, 0, none⟩) mm.code.length mm.code.length)).far (p := ⟨w.heap.size + 1, 2, none⟩) (by show w.heap.size + 1 + 1 ≠ w.heap.size + 1; omega) (.int .i64 ((most' : Nat) : Int)))
                 have bR9' := (((bR9.set_ 0 (.slice (some ⟨ge, 0, none⟩) mm.code.length mm.code.length)).set_ 1 (.slice (some ⟨gs, 0, none⟩) mm.code.length mm.code.length)).set_ 2 (.int .i64 ((most' : Nat) : Int)))
                 have hbw9' := (((hbw9.setCell (p := ⟨w.heap.size + 1, 0, none⟩) (by show w.heap.size ≤ w.heap.size + 1; omega) (.slice (some ⟨ge, 0, none⟩) mm.code.length mm.code.length)).setCell (p := ⟨w.heap.size + 1, 1, none⟩) (by show w.heap.size ≤ w.heap.size + 1; omega) (.slice (some ⟨gs, 0, none⟩) mm.code.length mm.code.length)).setCell (p := ⟨w.heap.size + 1, 2, none⟩) (by show w.heap.size ≤ w.heap.size + 1; omega) (.int .i64 ((most' : Nat) : Int)))
                 have hnx9 : gx ≠ w.heap.size + 1 := by omega
                 have bX9' := ((bX9.far (p := ⟨w.heap.size + 1, 0, none⟩) hnx9 (.slice (some ⟨ge, 0, none⟩) mm.code.length mm.code.length)).far (p := ⟨w.heap.size + 1, 1, none⟩) hnx9 (.slice (some ⟨gs, 0, none⟩) mm.code.length mm.code.length)).far (p := ⟨w.heap.size + 1, 2, none⟩) hnx9 (.int .i64 ((most' : Nat) : Int))
                 refine HK.out _ _ (fun _ => bX9') ?_
                 clear HK bX9 fr0 fr1 fr2 ff0 ff1 r0 r1 r2 f0 f1 lR lF bR9 bF9 hbw9 hb9
                 generalize (((wz.setCell ⟨w.heap.size + 1, 0, none⟩ (.slice (some ⟨ge, 0, none⟩) mm.code.length mm.code.length)).setCell ⟨w.heap.size + 1, 1, none⟩ (.slice (some ⟨gs, 0, none⟩) mm.code.length mm.code.length)).setCell ⟨w.heap.size + 1, 2, none⟩ (.int .i64 ((most' : Nat) : Int))) = w10 at *
                 have ff0 := bF9'.frozen 0
                 have ff1 := bF9'.frozen 1
                 have f0 := bF9'.at0
                 have f1 := bF9'.at1
                 have lF := bF9'.lt
                 refine stepQ 5 rfl (fun K HK => ?_)
                 go_simp
                 have q := fun (g : Nat) (T : TypeId) (cs : Array Value) (B : Blk w10 g T cs) (hg : g ≠ w.heap.size + 1 + 1) => (B.far (p := ⟨w.heap.size + 1 + 1, 0, none⟩) hg (.int .i64 110)).far (p := ⟨w.heap.size + 1 + 1, 1, none⟩) hg (.slice (some ⟨gt, 0, none⟩) 2 2)
                 have bR10 := q _ _ _ bR9' (by omega)
                 have bF10 := (bF9'.set_ 0 (.int .i64 110)).set_ 1 (.slice (some ⟨gt, 0, none⟩) 2 2)
                 have hb10 := (hbw9'.setCell (p := ⟨w.heap.size + 1 + 1, 0, none⟩) (by show w.heap.size ≤ w.heap.size + 1 + 1; omega) (.int .i64 110)).setCell (p := ⟨w.heap.size + 1 + 1, 1, none⟩) (by show w.heap.size ≤ w.heap.size + 1 + 1; omega) (.slice (some ⟨gt, 0, none⟩) 2 2)
                 refine HK.out _ _ (fun h => by simp at h) ?_
                 clear HK q f0 f1 ff0 ff1 lF
                 have q0 := bR10.at0
                 have q1 := bR10.at1
                 have q2 := bR10.at2
                 have q3 := bF10.at0
                 have q4 := bF10.at1
                 generalize (w10.setCell ⟨w.heap.size + 1 + 1, 0, none⟩ (.int .i64 110)).setCell ⟨w.heap.size + 1 + 1, 1, none⟩ (.slice (some ⟨gt, 0, none⟩) 2 2) = w11 at *
                 refine wpAnyJ_done (by kernel_rfl) ?_ _
                 go_wp2
                 refine bodyPost_ret (v := .tuple #[.agg #[.slice (some ⟨ge, 0, none⟩) mm.code.length mm.code.length, .slice (some ⟨gs, 0, none⟩) mm.code.length mm.code.length, .int .i64 ((most' : Nat) : Int)], .agg #[.int .i64 110, .slice (some ⟨gt, 0, none⟩) 2 2]]) (by simp [results, Tryz.results64, go_sem, q0, q1, q2, q3, q4]) rfl ?_
                 exact HP.out gs ge ((most' : Nat) : Int) 110 (some ⟨gt, 0, none⟩) 2 2 _ (by rw [Hnone.out]; simp []) (fun s hs => by rw [Hnone.out] at hs; cases hs) (by omega) (by omega) hb10
               · rw [if_neg hvn] at hF
                 have gv : decide ((mm.code.length : Int) ≤ v) = false := by simpa using hvn
                 obtain ⟨q, rfl⟩ : ∃ q : Nat, v = q := ⟨v.toNat, by omega⟩
                 simp only [Int.toNat_natCast] at hF
                 have q0 : (0 : Int) ≤ q := by omega
                 have q1 : (q : Int) < mm.code.length := by omega
                 have ye := bls_cell bE (show q < ek.length by omega)
                 have yk := strs_cell bS (show q < sk.length by omega)
                 have fe := bE.frozen q
                 have fs := bS.frozen q
                 generalize hek : ek.getD q false = eq at *
                 have HF2 := Lib.hid hF
                 clear hek hqv hv hve hF hvn hrow HF
                 cases eq with
                 | false =>
                   have HF3 := Lib.hid (show flowTo mm.code.length b nx s'.stacks s'.seen = flowTo mm.code.length b (nx.drop (j + 1)) (sk.set q b) (ek.set q true) by have := HF2.out; rw [if_pos rfl] at this; exact this)
                   clear HF2
                   have lS := bS.lt
                   go_upto_region 24 with (fail)
                   have bE7 := bls_set bE q true
                   have bS7 := bS.far (p := ⟨ge, q, none⟩) n1 (.bool true)
                   have bX7 := bX.far (p := ⟨ge, q, none⟩) (Ne.symm n3) (.bool true)
                   have hb7 := hb.setCell (p := ⟨ge, q, none⟩) (by show w.heap.size ≤ ge; omega) (.bool true)
                   have K7 := Lib.hid (K6.out.set (p := ⟨ge, q, none⟩) (by simp) (.bool true))
                   clear fs yk x0 x1 bX lX lE lS ye fe bS bE hb K6
                   generalize wr.setCell ⟨ge, q, none⟩ (.bool true) = wr2 at *
                   have x1 := bX7.at1
                   have lX := bX7.lt
                   have fs := bS7.frozen q
                   have yk := strs_cell bS7 (show q < sk.length by omega)
                   generalize sk.getD q ⟨#[]⟩ = sq at yk
                   have lS := bS7.lt
                   have bS8 := strs_set bS7 q b
                   have bE8 := bE7.far (p := ⟨gs, q, none⟩) (Ne.symm n1) (.string b)
                   have hb8 := hb7.setCell (p := ⟨gs, q, none⟩) (by show w.heap.size ≤ gs; omega) (.string b)
                   have K8 := Lib.hid (K7.out.set (p := ⟨gs, q, none⟩) (by simp) (.string b))
                   go_wp2
                   go_roundw
                   case rel => exact ⟨j + 1, _, _, by omega, by go_num, HF3, by simpa using lk1, by simpa using lk2, bS8, bE8, K8, hb8⟩
                   case measure => simp [intOf]; omega
                 | true =>
                   have h2 := HF2.out
                   rw [if_neg (by simp)] at h2
                   by_cases hsb : sk.getD q ⟨#[]⟩ = b
                   · rw [if_pos hsb] at h2
                     have HF3 := Lib.hid h2
                     rw [hsb] at yk
                     clear HF2 h2 hsb
                     go_wp2
                     go_roundw
                     case rel => exact ⟨j + 1, sk, ek, by omega, by go_num, HF3, lk1, lk2, bS, bE, K6, hb⟩
                     case measure => simp [intOf]; omega
                   · rw [if_neg hsb] at h2
                     have Hnone := Lib.hid (HG2.out h2)
                     have gsb := (str_eqb2 (sk.getD q ⟨#[]⟩) b).trans (decide_eq_false hsb)
                     clear HF2 h2 hsb HG2 HG3
                     generalize sk.getD q ⟨#[]⟩ = sq at *
                     go_upto_region 26 with (fail)
                     refine wpJ_start (S := fun W => Blk W gx 142 #[.slice (some ⟨ge, 0, none⟩) mm.code.length mm.code.length, .slice (some ⟨gs, 0, none⟩) mm.code.length mm.code.length, .int .i64 ((most' : Nat) : Int)]) (fun q => decide (q ≤ 4)) (by kernel_rfl) bX (fun HS => ?_)
                     refine takeQ 0 146 rfl HS (.inl ⟨rfl, fun W hW => by have h0 := hW.at0; have h1 := hW.at1; have h2 := hW.at2; go_simp; rfl⟩) ?_
                     simp only [pS]
                     refine takeQ 1 147 rfl HS (.inl ⟨rfl, fun W hW => by go_simp; rfl⟩) ?_
                     simp only [pS]
                     refine takeQ 2 148 rfl HS (.inl ⟨rfl, fun W hW => by go_simp; rfl⟩) ?_
                     simp only [pS]
                     refine stepQ 3 rfl (fun K HK => ?_)
                     go_simp
                     refine (there_any _ _ _ _).mono ?_
                     rintro e wz ⟨gt, rfl, hgt, hb9'⟩
                     have hb9 : Below wr.heap.size wr wz := (Below.refl _ _).drew.trans hb9'
                     have bX9 := bX.below hb9 bX.lt
                     refine HK.out _ _ (fun _ => bX9) ?_
                     clear HK HS hb9'
                     try simp only [pS]
                     have bR9 := bR.below hb9 bR.lt
                     have bF9 := bF.below hb9 bF.lt
                     have fr0 := bR9.frozen 0
                     have fr1 := bR9.frozen 1
                     have fr2 := bR9.frozen 2
                     have ff0 := bF9.frozen 0
                     have ff1 := bF9.frozen 1
                     have r0 := bR9.at0
                     have r1 := bR9.at1
                     have r2 := bR9.at2
                     have f0 := bF9.at0
                     have f1 := bF9.at1
                     have lR := bR9.lt
                     have lF := bF9.lt
                     have hbw9 := hb.trans (hb9.mono hb.size)
                     refine stepQ 4 rfl (fun K HK => ?_)
                     go_simp
                     have hne : w.heap.size + 1 + 1 ≠ w.heap.size + 1 := by omega
                     have bF9' := (((bF9.far (p := ⟨w.heap.size + 1, 0, none⟩) (by show w.heap.size + 1 + 1 ≠ w.heap.size + 1; omega) (.slice (some ⟨ge, 0, none⟩) mm.code.length mm.code.length)).far (p := ⟨w.heap.size + 1, 1, none⟩) (by show w.heap.size + 1 + 1 ≠ w.heap.size + 1; omega) (.slice (some ⟨gs, 0, none⟩) mm.code.length mm.code.length)).far (p := ⟨w.heap.size + 1, 2, none⟩) (by show w.heap.size + 1 + 1 ≠ w.heap.size + 1; omega) (.int .i64 ((most' : Nat) : Int)))
                     have bR9' := (((bR9.set_ 0 (.slice (some ⟨ge, 0, none⟩) mm.code.length mm.code.length)).set_ 1 (.slice (some ⟨gs, 0, none⟩) mm.code.length mm.code.length)).set_ 2 (.int .i64 ((most' : Nat) : Int)))
                     have hbw9' := (((hbw9.setCell (p := ⟨w.heap.size + 1, 0, none⟩) (by show w.heap.size ≤ w.heap.size + 1; omega) (.slice (some ⟨ge, 0, none⟩) mm.code.length mm.code.length)).setCell (p := ⟨w.heap.size + 1, 1, none⟩) (by show w.heap.size ≤ w.heap.size + 1; omega) (.slice (some ⟨gs, 0, none⟩) mm.code.length mm.code.length)).setCell (p := ⟨w.heap.size + 1, 2, none⟩) (by show w.heap.size ≤ w.heap.size + 1; omega) (.int .i64 ((most' : Nat) : Int)))
                     have hnx9 : gx ≠ w.heap.size + 1 := by omega
                     have bX9' := ((bX9.far (p := ⟨w.heap.size + 1, 0, none⟩) hnx9 (.slice (some ⟨ge, 0, none⟩) mm.code.length mm.code.length)).far (p := ⟨w.heap.size + 1, 1, none⟩) hnx9 (.slice (some ⟨gs, 0, none⟩) mm.code.length mm.code.length)).far (p := ⟨w.heap.size + 1, 2, none⟩) hnx9 (.int .i64 ((most' : Nat) : Int))
                     refine HK.out _ _ (fun _ => bX9') ?_
                     clear HK bX9 fr0 fr1 fr2 ff0 ff1 r0 r1 r2 f0 f1 lR lF bR9 bF9 hbw9 hb9
                     generalize (((wz.setCell ⟨w.heap.size + 1, 0, none⟩ (.slice (some ⟨ge, 0, none⟩) mm.code.length mm.code.length)).setCell ⟨w.heap.size + 1, 1, none⟩ (.slice (some ⟨gs, 0, none⟩) mm.code.length mm.code.length)).setCell ⟨w.heap.size + 1, 2, none⟩ (.int .i64 ((most' : Nat) : Int))) = w10 at *
                     have ff0 := bF9'.frozen 0
                     have ff1 := bF9'.frozen 1
                     have f0 := bF9'.at0
                     have f1 := bF9'.at1
                     have lF := bF9'.lt
                     refine stepQ 5 rfl (fun K HK => ?_)
                     go_simp
                     have q := fun (g : Nat) (T : TypeId) (cs : Array Value) (B : Blk w10 g T cs) (hg : g ≠ w.heap.size + 1 + 1) => (B.far (p := ⟨w.heap.size + 1 + 1, 0, none⟩) hg (.int .i64 109)).far (p := ⟨w.heap.size + 1 + 1, 1, none⟩) hg (.slice (some ⟨gt, 0, none⟩) 2 2)
                     have bR10 := q _ _ _ bR9' (by omega)
                     have bF10 := (bF9'.set_ 0 (.int .i64 109)).set_ 1 (.slice (some ⟨gt, 0, none⟩) 2 2)
                     have hb10 := (hbw9'.setCell (p := ⟨w.heap.size + 1 + 1, 0, none⟩) (by show w.heap.size ≤ w.heap.size + 1 + 1; omega) (.int .i64 109)).setCell (p := ⟨w.heap.size + 1 + 1, 1, none⟩) (by show w.heap.size ≤ w.heap.size + 1 + 1; omega) (.slice (some ⟨gt, 0, none⟩) 2 2)
                     refine HK.out _ _ (fun h => by simp at h) ?_
                     clear HK q f0 f1 ff0 ff1 lF
                     have q0 := bR10.at0
                     have q1 := bR10.at1
                     have q2 := bR10.at2
                     have q3 := bF10.at0
                     have q4 := bF10.at1
                     generalize (w10.setCell ⟨w.heap.size + 1 + 1, 0, none⟩ (.int .i64 109)).setCell ⟨w.heap.size + 1 + 1, 1, none⟩ (.slice (some ⟨gt, 0, none⟩) 2 2) = w11 at *
                     refine wpAnyJ_done (by kernel_rfl) ?_ _
                     go_wp2
                     refine bodyPost_ret (v := .tuple #[.agg #[.slice (some ⟨ge, 0, none⟩) mm.code.length mm.code.length, .slice (some ⟨gs, 0, none⟩) mm.code.length mm.code.length, .int .i64 ((most' : Nat) : Int)], .agg #[.int .i64 109, .slice (some ⟨gt, 0, none⟩) 2 2]]) (by simp [results, Tryz.results64, go_sem, q0, q1, q2, q3, q4]) rfl ?_
                     exact HP.out gs ge ((most' : Nat) : Int) 109 (some ⟨gt, 0, none⟩) 2 2 _ (by rw [Hnone.out]; simp []) (fun s hs => by rw [Hnone.out] at hs; cases hs) (by omega) (by omega) hb10
             · have e : j = nx.length := by omega
               have hF := HF.out
               rw [e, List.drop_length] at hF
               simp only [flowTo] at hF
               have HF3 := Lib.hid (HG3.out sk ek hF)
               have hge : ¬ (j : Int) < nx.length := by omega
               have bD := bD5'.kb K6.out ⟨Ne.symm n4, Ne.symm n5, bD5'.lt⟩
               have K7 := Lib.hid (K5.out.trans (K6.out.sub (fun b h => ⟨by omega, by omega, by have := bD5'.lt; omega⟩)))
               clear e hjl hF HG2 HG3 HF
               go_wp2
               go_roundg f'
               case measure => have := Hgk.out; omega
               case rel =>
                refine ⟨_, Lib.hid HF3.out.1, Lib.hid HF3.out.2, Lib.hid ?_, ?_, bS, bE, bD, K7, hb⟩
                · have h1 := HC.out
                  have h2 := Hgk.out
                  have h3 := cnt_set (l := s'.done) (k := pc) (by omega) Hhd.out
                  simp only
                  omega
                · simpa only [HM'.out] using bX
    · have epc : pc = mm.code.length := by omega
      have hpick := pick_at (s := s') (n := mm.code.length) (pc := pc) (by omega) Hpc.out (fun h => absurd h hlt)
      have hdone : verM p mm = some s' := by
       obtain ⟨f', hf'⟩ : ∃ f', gk = f' + 1 := by
        cases f : gk with
        | zero => have := HC.out; omega
        | succ f' => exact ⟨f', rfl⟩
       have := HR.out
       rw [hf'] at this
       unfold vrun at this
       rw [this, if_pos (by omega)]
      have Hdone := Lib.hid hdone
      clear hdone hpick
      subst epc
      have hge : ¬ (mm.code.length : Int) < mm.code.length := by omega
      go_upto_region 9 with (fail)
      refine wpJ_start (S := Below wr.heap.size wr) (fun q => decide (q ≤ 1)) (by kernel_rfl) (Below.refl _ _).drew (fun HS => ?_)
      refine takeQ 0 62 rfl HS (.inl ⟨rfl, fun W hW => by have bW := bX.below hW bX.lt; have h0 := bW.at0; have h1 := bW.at1; have h2 := bW.at2; go_simp; rfl⟩) ?_
      simp only [pS]
      refine stepQ 1 rfl (fun K HK => ?_)
      go_simp
      refine (none_any _).mono ?_
      rintro e w9 ⟨rfl, hb9'⟩
      have hb9 : Below wr.heap.size wr w9 := (Below.refl _ _).drew.trans hb9'
      refine HK.out _ _ (fun _ => hb9) ?_
      clear HK HS hb9'
      try simp only [pS]
      have bR9 := bR.below hb9 bR.lt
      have bF9 := bF.below hb9 bF.lt
      have fr0 := bR9.frozen 0
      have fr1 := bR9.frozen 1
      have fr2 := bR9.frozen 2
      have ff0 := bF9.frozen 0
      have ff1 := bF9.frozen 1
      have r0 := bR9.at0
      have r1 := bR9.at1
      have r2 := bR9.at2
      have f0 := bF9.at0
      have f1 := bF9.at1
      have lR := bR9.lt
      have lF := bF9.lt
      have bS9 := bS.below hb9 bS.lt
      have bE9 := bE.below hb9 bE.lt
      have hbw9 := hb.trans (hb9.mono hb.size)
      refine stepQ 2 rfl (fun K HK => ?_)
      go_simp
      have hne : w.heap.size + 1 + 1 ≠ w.heap.size + 1 := by omega
      have bF9' := (((bF9.far (p := ⟨w.heap.size + 1, 0, none⟩) (by show w.heap.size + 1 + 1 ≠ w.heap.size + 1; omega) (.slice (some ⟨ge, 0, none⟩) mm.code.length mm.code.length)).far (p := ⟨w.heap.size + 1, 1, none⟩) (by show w.heap.size + 1 + 1 ≠ w.heap.size + 1; omega) (.slice (some ⟨gs, 0, none⟩) mm.code.length mm.code.length)).far (p := ⟨w.heap.size + 1, 2, none⟩) (by show w.heap.size + 1 + 1 ≠ w.heap.size + 1; omega) (.int .i64 s'.most))
      have bS9' := (((bS9.far (p := ⟨w.heap.size + 1, 0, none⟩) (by show gs ≠ w.heap.size + 1; omega) (.slice (some ⟨ge, 0, none⟩) mm.code.length mm.code.length)).far (p := ⟨w.heap.size + 1, 1, none⟩) (by show gs ≠ w.heap.size + 1; omega) (.slice (some ⟨gs, 0, none⟩) mm.code.length mm.code.length)).far (p := ⟨w.heap.size + 1, 2, none⟩) (by show gs ≠ w.heap.size + 1; omega) (.int .i64 s'.most))
      have bE9' := (((bE9.far (p := ⟨w.heap.size + 1, 0, none⟩) (by show ge ≠ w.heap.size + 1; omega) (.slice (some ⟨ge, 0, none⟩) mm.code.length mm.code.length)).far (p := ⟨w.heap.size + 1, 1, none⟩) (by show ge ≠ w.heap.size + 1; omega) (.slice (some ⟨gs, 0, none⟩) mm.code.length mm.code.length)).far (p := ⟨w.heap.size + 1, 2, none⟩) (by show ge ≠ w.heap.size + 1; omega) (.int .i64 s'.most))
      have bR9' := (((bR9.set_ 0 (.slice (some ⟨ge, 0, none⟩) mm.code.length mm.code.length)).set_ 1 (.slice (some ⟨gs, 0, none⟩) mm.code.length mm.code.length)).set_ 2 (.int .i64 s'.most))
      have hbw9' := (((hbw9.setCell (p := ⟨w.heap.size + 1, 0, none⟩) (by show w.heap.size ≤ w.heap.size + 1; omega) (.slice (some ⟨ge, 0, none⟩) mm.code.length mm.code.length)).setCell (p := ⟨w.heap.size + 1, 1, none⟩) (by show w.heap.size ≤ w.heap.size + 1; omega) (.slice (some ⟨gs, 0, none⟩) mm.code.length mm.code.length)).setCell (p := ⟨w.heap.size + 1, 2, none⟩) (by show w.heap.size ≤ w.heap.size + 1; omega) (.int .i64 s'.most))
      refine HK.out _ _ (fun h => by simp at h) ?_
      clear HK fr0 fr1 fr2 ff0 ff1 r0 r1 r2 f0 f1 lR lF bR9 bF9 bS9 bE9 hbw9 hb9
      generalize (((w9.setCell ⟨w.heap.size + 1, 0, none⟩ (.slice (some ⟨ge, 0, none⟩) mm.code.length mm.code.length)).setCell ⟨w.heap.size + 1, 1, none⟩ (.slice (some ⟨gs, 0, none⟩) mm.code.length mm.code.length)).setCell ⟨w.heap.size + 1, 2, none⟩ (.int .i64 s'.most)) = w10 at *
      have ff0 := bF9'.frozen 0
      have ff1 := bF9'.frozen 1
      have f0 := bF9'.at0
      have f1 := bF9'.at1
      have lF := bF9'.lt
      refine stepQ 3 rfl (fun K HK => ?_)
      go_simp
      have q := fun (g : Nat) (T : TypeId) (cs : Array Value) (B : Blk w10 g T cs) (hg : g ≠ w.heap.size + 1 + 1) => (B.far (p := ⟨w.heap.size + 1 + 1, 0, none⟩) hg (.int .i64 0)).far (p := ⟨w.heap.size + 1 + 1, 1, none⟩) hg (.slice none 0 0)
      have bR10 := q _ _ _ bR9' (by omega)
      have bS10 := q _ _ _ bS9' (by omega)
      have bE10 := q _ _ _ bE9' (by omega)
      have bF10 := (bF9'.set_ 0 (.int .i64 0)).set_ 1 (.slice none 0 0)
      have hb10 := (hbw9'.setCell (p := ⟨w.heap.size + 1 + 1, 0, none⟩) (by show w.heap.size ≤ w.heap.size + 1 + 1; omega) (.int .i64 0)).setCell (p := ⟨w.heap.size + 1 + 1, 1, none⟩) (by show w.heap.size ≤ w.heap.size + 1 + 1; omega) (.slice none 0 0)
      refine HK.out _ _ (fun h => by simp at h) ?_
      clear HK q f0 f1 ff0 ff1 lF
      have q0 := bR10.at0
      have q1 := bR10.at1
      have q2 := bR10.at2
      have q3 := bF10.at0
      have q4 := bF10.at1
      generalize (w10.setCell ⟨w.heap.size + 1 + 1, 0, none⟩ (.int .i64 0)).setCell ⟨w.heap.size + 1 + 1, 1, none⟩ (.slice none 0 0) = w11 at *
      refine wpAnyJ_done (by kernel_rfl) ?_ _
      go_wp2
      refine bodyPost_ret (v := .tuple #[.agg #[.slice (some ⟨ge, 0, none⟩) mm.code.length mm.code.length, .slice (some ⟨gs, 0, none⟩) mm.code.length mm.code.length, .int .i64 s'.most], .agg #[.int .i64 0, .slice none 0 0]]) (by simp [results, Tryz.results64, go_sem, q0, q1, q2, q3, q4]) rfl ?_
      exact HP.out gs ge s'.most 0 none 0 0 _ (by rw [Hdone.out]; simp) (fun s hs => by rw [Hdone.out] at hs; cases hs; exact ⟨rfl, bS10, bE10⟩) (by omega) (by omega) hb10
end Go.Proofs.YtjjmpfmhggcjiaaGreatDoor
