/-
 Rf4.
-/
import Derived.Test.YtjjmpfmhggcjiaaGreatDoorJRf3
set_option linter.unusedSimpArgs false
set_option linter.unusedVariables false
namespace Go.Proofs.YtjjmpfmhggcjiaaGreatDoor
open Go.RowKit Go.Maps
/-- What is read stays, where nothing that was there is turned. -/
theorem rds_live {w w' : World} {S : Nat → Prop} {size n : Nat} {A : Option Addr} {xs : List Value} (h : RdS w S size A n xs) (hb : Below w.heap.size w w') : RdS w' S size A n xs := by
 refine ⟨h.1, fun hn => ?_⟩
 obtain ⟨b, off, e, hS, hc⟩ := h.2 hn
 exact ⟨b, off, e, hS, fun j u hu => by
  have h1 := hc j u hu
  exact (hb.cell (p := ⟨b, off + j, none⟩) (World.block_lt_of_cell? w ⟨b, off + j, none⟩ h1)).trans h1⟩
abbrev bkv (h : H4) (x : Bk) : Value := .agg ⟨bkShape.cell x h⟩
def BlockPost (w : World) (x : Bk) (e : Ending) (w' : World) : Prop := ∃ h : H4, e = .returned (bkv h x) ∧ bkShape.inner (fun b => w.heap.size ≤ b ∧ b < w'.heap.size) w' x h ∧ Below w.heap.size w w'
set_option maxRecDepth 100000 in
set_option maxHeartbeats 4000000 in
theorem block_any (A1 A2 A3 A4' : Option Addr) (c1 c2 c3 c4 : Nat) (x : Bk) (w : World) (hr1 : Rd w w.heap.size 1 A1 x.phis.length (ints x.phis)) (hr2 : Rd w w.heap.size 1 A2 x.body.length (ints x.body)) (hr3 : Rd w w.heap.size 1 A3 x.succ.length (ints x.succ)) (hr4 : Rd w w.heap.size 1 A4' x.preds.length (ints x.preds))
 (hl1 : x.phis.length ≤ 1000000) (hl2 : x.body.length ≤ 1000000) (hl3 : x.succ.length ≤ 1000000) (hl4 : x.preds.length ≤ 1000000) :
 Calls Tryz.prog 107 #[.agg #[.slice A1 x.phis.length c1, .slice A2 x.body.length c2, .slice A3 x.succ.length c3, .slice A4' x.preds.length c4]] w (BlockPost w x) := by
 have HP := Lib.hid (fun B1 B2 B3 B4 d1 d2 d3 d4 w' (h1 : bkShape.inner (fun b => w.heap.size ≤ b ∧ b < w'.heap.size) w' x ⟨(B1, d1), (B2, d2), (B3, d3), (B4, d4)⟩) (h2 : Below w.heap.size w w') => (show BlockPost w x (.returned (.agg #[.slice B1 x.phis.length d1, .slice B2 x.body.length d2, .slice B3 x.succ.length d3, .slice B4 x.preds.length d4])) w' from ⟨⟨(B1, d1), (B2, d2), (B3, d3), (B4, d4)⟩, rfl, h1, h2⟩))
 generalize BlockPost w x = Post at *
 have HI1 := Lib.hid (fun W (hW : Below w.heap.size w W) => ints_any A1 c1 x.phis W ((hr1.below hW (Nat.le_refl _)).more hW.size) hl1)
 have HI2 := Lib.hid (fun W (hW : Below w.heap.size w W) => ints_any A2 c2 x.body W ((hr2.below hW (Nat.le_refl _)).more hW.size) hl2)
 have HI3 := Lib.hid (fun W (hW : Below w.heap.size w W) => ints_any A3 c3 x.succ W ((hr3.below hW (Nat.le_refl _)).more hW.size) hl3)
 have HI4 := Lib.hid (fun W (hW : Below w.heap.size w W) => ints_any A4' c4 x.preds W ((hr4.below hW (Nat.le_refl _)).more hW.size) hl4)
 clear hr1 hr2 hr3 hr4
 have bN := (Blk.new w 61 #[.slice A1 x.phis.length c1, .slice A2 x.body.length c2, .slice A3 x.succ.length c3, .slice A4' x.preds.length c4]).alloc (.cells #[.slice none 0 0, .slice none 0 0, .slice none 0 0, .slice none 0 0] 61)
 have bR := Blk.newAt (w := w.alloc (.cells #[.slice A1 x.phis.length c1, .slice A2 x.body.length c2, .slice A3 x.succ.length c3, .slice A4' x.preds.length c4] 61)) (g := w.heap.size + 1) (by simp) 61 #[.slice none 0 0, .slice none 0 0, .slice none 0 0, .slice none 0 0]
 have hb := ((Below.refl w.heap.size w).alloc (Nat.le_refl _) (.cells #[.slice A1 x.phis.length c1, .slice A2 x.body.length c2, .slice A3 x.succ.length c3, .slice A4' x.preds.length c4] 61)).alloc (by simp) (.cells #[.slice none 0 0, .slice none 0 0, .slice none 0 0, .slice none 0 0] 61)
 have hz : ((w.alloc (.cells #[.slice A1 x.phis.length c1, .slice A2 x.body.length c2, .slice A3 x.succ.length c3, .slice A4' x.preds.length c4] 61)).alloc (.cells #[.slice none 0 0, .slice none 0 0, .slice none 0 0, .slice none 0 0] 61)).heap.size = w.heap.size + 2 := by simp
 have Hz := Lib.hid hz
 clear hz
 go_enter Tryz.func107, Tryz.ntmps107
 go_upto_region 1 with (fail)
 generalize (w.alloc (.cells #[.slice A1 x.phis.length c1, .slice A2 x.body.length c2, .slice A3 x.succ.length c3, .slice A4' x.preds.length c4] 61)).alloc (.cells #[.slice none 0 0, .slice none 0 0, .slice none 0 0, .slice none 0 0] 61) = w2 at *
 refine wpJ_start (S := Below w2.heap.size w2) (fun q => decide (q ≤ 12)) (by kernel_rfl) (Below.refl _ _).drew (fun HS => ?_)
 refine takeQ 0 3 rfl HS (.inl ⟨rfl, fun W hW => by go_simp; rfl⟩) ?_
 simp only [pS]
 refine takeQ 1 4 rfl HS (.inl ⟨rfl, fun W hW => by have h0 := (bN.below hW bN.lt).cell 0; simp at h0; go_simp; rfl⟩) ?_
 simp only [pS]
 refine takeQ 3 6 rfl HS (.inl ⟨rfl, fun W hW => by go_simp; rfl⟩) ?_
 simp only [pS]
 refine takeQ 4 7 rfl HS (.inl ⟨rfl, fun W hW => by have h0 := (bN.below hW bN.lt).cell 1; simp at h0; go_simp; rfl⟩) ?_
 simp only [pS]
 refine takeQ 6 9 rfl HS (.inl ⟨rfl, fun W hW => by go_simp; rfl⟩) ?_
 simp only [pS]
 refine takeQ 7 10 rfl HS (.inl ⟨rfl, fun W hW => by have h0 := (bN.below hW bN.lt).cell 2; simp at h0; go_simp; rfl⟩) ?_
 simp only [pS]
 refine takeQ 9 12 rfl HS (.inl ⟨rfl, fun W hW => by go_simp; rfl⟩) ?_
 simp only [pS]
 refine takeQ 10 13 rfl HS (.inl ⟨rfl, fun W hW => by have h0 := (bN.below hW bN.lt).cell 3; simp at h0; go_simp; rfl⟩) ?_
 simp only [pS]
 have hw3 := HS
 refine stepQ 2 rfl (fun K' HK => ?_)
 go_simp
 refine (HI1.out w2.drew (hb.trans (hw3.mono hb.size))).mono ?_
 rintro e u1 ⟨B1, d1, rfl, own, hbn⟩
 have a1 := rds_own own (S := fun b => w2.heap.size ≤ b ∧ b < u1.heap.size) (fun g _ h1 h2 => ⟨Nat.le_trans hw3.size h1, h2⟩)
 have hw3 := hw3.trans (hbn.mono hw3.size)
 refine HK.out _ _ (fun _ => hw3) ?_
 clear HK own hbn
 try simp only [pS]
 refine stepQ 5 rfl (fun K' HK => ?_)
 go_simp
 refine (HI2.out u1 (hb.trans (hw3.mono hb.size))).mono ?_
 rintro e u2 ⟨B2, d2, rfl, own, hbn⟩
 have a2 := rds_own own (S := fun b => w2.heap.size ≤ b ∧ b < u2.heap.size) (fun g _ h1 h2 => ⟨Nat.le_trans hw3.size h1, h2⟩)
 have a1 := (rds_live a1 hbn).more (S' := fun b => w2.heap.size ≤ b ∧ b < u2.heap.size) (fun b h => ⟨h.1, Nat.lt_of_lt_of_le h.2 hbn.size⟩)
 have hw3 := hw3.trans (hbn.mono hw3.size)
 refine HK.out _ _ (fun _ => hw3) ?_
 clear HK own hbn
 try simp only [pS]
 refine stepQ 8 rfl (fun K' HK => ?_)
 go_simp
 refine (HI3.out u2 (hb.trans (hw3.mono hb.size))).mono ?_
 rintro e u3 ⟨B3, d3, rfl, own, hbn⟩
 have a3 := rds_own own (S := fun b => w2.heap.size ≤ b ∧ b < u3.heap.size) (fun g _ h1 h2 => ⟨Nat.le_trans hw3.size h1, h2⟩)
 have a1 := (rds_live a1 hbn).more (S' := fun b => w2.heap.size ≤ b ∧ b < u3.heap.size) (fun b h => ⟨h.1, Nat.lt_of_lt_of_le h.2 hbn.size⟩)
 have a2 := (rds_live a2 hbn).more (S' := fun b => w2.heap.size ≤ b ∧ b < u3.heap.size) (fun b h => ⟨h.1, Nat.lt_of_lt_of_le h.2 hbn.size⟩)
 have hw3 := hw3.trans (hbn.mono hw3.size)
 refine HK.out _ _ (fun _ => hw3) ?_
 clear HK own hbn
 try simp only [pS]
 refine stepQ 11 rfl (fun K' HK => ?_)
 go_simp
 refine (HI4.out u3 (hb.trans (hw3.mono hb.size))).mono ?_
 rintro e u4 ⟨B4, d4, rfl, own, hbn⟩
 have a4 := rds_own own (S := fun b => w2.heap.size ≤ b ∧ b < u4.heap.size) (fun g _ h1 h2 => ⟨Nat.le_trans hw3.size h1, h2⟩)
 have a1 := (rds_live a1 hbn).more (S' := fun b => w2.heap.size ≤ b ∧ b < u4.heap.size) (fun b h => ⟨h.1, Nat.lt_of_lt_of_le h.2 hbn.size⟩)
 have a2 := (rds_live a2 hbn).more (S' := fun b => w2.heap.size ≤ b ∧ b < u4.heap.size) (fun b h => ⟨h.1, Nat.lt_of_lt_of_le h.2 hbn.size⟩)
 have a3 := (rds_live a3 hbn).more (S' := fun b => w2.heap.size ≤ b ∧ b < u4.heap.size) (fun b h => ⟨h.1, Nat.lt_of_lt_of_le h.2 hbn.size⟩)
 have hw3 := hw3.trans (hbn.mono hw3.size)
 refine HK.out _ _ (fun _ => hw3) ?_
 clear HK own hbn
 try simp only [pS]
 have HS3 := hw3
 clear HS hw3
 refine takeQ 12 15 rfl HS3 (.inl ⟨rfl, fun W hW => by go_simp; rfl⟩) ?_
 simp only [pS]
 have w3e : u4 = u4 := rfl
 clear w3e
 generalize u4 = w3 at *
 have bR3 := bR.below HS3 bR.lt
 have hb3 := hb.trans (HS3.mono hb.size)
 have hzz := Hz.out
 have lw : w.heap.size + 2 ≤ w3.heap.size := by have := HS3.size; omega
 have r1 := a1.more (S' := fun b => w.heap.size + 2 ≤ b ∧ b < w3.heap.size) (fun b h => ⟨by omega, by omega⟩)
 have r2 := a2.more (S' := fun b => w.heap.size + 2 ≤ b ∧ b < w3.heap.size) (fun b h => ⟨by omega, by omega⟩)
 have r3 := a3.more (S' := fun b => w.heap.size + 2 ≤ b ∧ b < w3.heap.size) (fun b h => ⟨by omega, by omega⟩)
 have r4 := a4.more (S' := fun b => w.heap.size + 2 ≤ b ∧ b < w3.heap.size) (fun b h => ⟨by omega, by omega⟩)
 clear a1 a2 a3 a4 hzz bN bR hb HS3
 have i0 : World.cell? _ ⟨w.heap.size + 1, 0, none⟩ = some (.slice none 0 0) := bR3.cell 0
 have if0 := bR3.frozen 0
 have i1 : World.cell? _ ⟨w.heap.size + 1, 1, none⟩ = some (.slice none 0 0) := bR3.cell 1
 have if1 := bR3.frozen 1
 have i2 : World.cell? _ ⟨w.heap.size + 1, 2, none⟩ = some (.slice none 0 0) := bR3.cell 2
 have if2 := bR3.frozen 2
 have i3 : World.cell? _ ⟨w.heap.size + 1, 3, none⟩ = some (.slice none 0 0) := bR3.cell 3
 have if3 := bR3.frozen 3
 have il := bR3.lt
 refine stepQ 13 rfl (fun K' HK => ?_)
 go_simp
 have K4 := (((((KB.refl (fun b => w.heap.size + 2 ≤ b ∧ b < w3.heap.size) w3).set (p := ⟨w.heap.size + 1, 0, none⟩) (by show ¬ (w.heap.size + 2 ≤ w.heap.size + 1 ∧ _); omega) (.slice B1 x.phis.length d1)).set (p := ⟨w.heap.size + 1, 1, none⟩) (by show ¬ (w.heap.size + 2 ≤ w.heap.size + 1 ∧ _); omega) (.slice B2 x.body.length d2)).set (p := ⟨w.heap.size + 1, 2, none⟩) (by show ¬ (w.heap.size + 2 ≤ w.heap.size + 1 ∧ _); omega) (.slice B3 x.succ.length d3)).set (p := ⟨w.heap.size + 1, 3, none⟩) (by show ¬ (w.heap.size + 2 ≤ w.heap.size + 1 ∧ _); omega) (.slice B4 x.preds.length d4))
 have hb4 := ((((hb3.setCell (p := ⟨w.heap.size + 1, 0, none⟩) (by show w.heap.size ≤ w.heap.size + 1; omega) (.slice B1 x.phis.length d1)).setCell (p := ⟨w.heap.size + 1, 1, none⟩) (by show w.heap.size ≤ w.heap.size + 1; omega) (.slice B2 x.body.length d2)).setCell (p := ⟨w.heap.size + 1, 2, none⟩) (by show w.heap.size ≤ w.heap.size + 1; omega) (.slice B3 x.succ.length d3)).setCell (p := ⟨w.heap.size + 1, 3, none⟩) (by show w.heap.size ≤ w.heap.size + 1; omega) (.slice B4 x.preds.length d4))
 have bR4 := ((((bR3.set_ 0 (.slice B1 x.phis.length d1)).set_ 1 (.slice B2 x.body.length d2)).set_ 2 (.slice B3 x.succ.length d3)).set_ 3 (.slice B4 x.preds.length d4))
 simp only [List.setIfInBounds_toArray, List.set_cons_zero, List.set_cons_succ] at bR4
 have hz4 : ((((w3.setCell ⟨w.heap.size + 1, 0, none⟩ (.slice B1 x.phis.length d1)).setCell ⟨w.heap.size + 1, 1, none⟩ (.slice B2 x.body.length d2)).setCell ⟨w.heap.size + 1, 2, none⟩ (.slice B3 x.succ.length d3)).setCell ⟨w.heap.size + 1, 3, none⟩ (.slice B4 x.preds.length d4)).heap.size = w3.heap.size := by simp
 refine HK.out _ _ (fun h => by simp at h) ?_
 clear HK i0 if0 i1 if1 i2 if2 i3 if3 il bR3 hb3
 have Hz4 := Lib.hid hz4
 clear hz4
 generalize ((((w3.setCell ⟨w.heap.size + 1, 0, none⟩ (.slice B1 x.phis.length d1)).setCell ⟨w.heap.size + 1, 1, none⟩ (.slice B2 x.body.length d2)).setCell ⟨w.heap.size + 1, 2, none⟩ (.slice B3 x.succ.length d3)).setCell ⟨w.heap.size + 1, 3, none⟩ (.slice B4 x.preds.length d4)) = w4 at *
 refine wpAnyJ_done (by kernel_rfl) ?_ _
 have q0 : World.cell? _ ⟨w.heap.size + 1, 0, none⟩ = some (.slice B1 x.phis.length d1) := bR4.cell 0
 have q1 : World.cell? _ ⟨w.heap.size + 1, 1, none⟩ = some (.slice B2 x.body.length d2) := bR4.cell 1
 have q2 : World.cell? _ ⟨w.heap.size + 1, 2, none⟩ = some (.slice B3 x.succ.length d3) := bR4.cell 2
 have q3 : World.cell? _ ⟨w.heap.size + 1, 3, none⟩ = some (.slice B4 x.preds.length d4) := bR4.cell 3
 go_wp2
 refine bodyPost_ret (v := .agg #[.slice B1 x.phis.length d1, .slice B2 x.body.length d2, .slice B3 x.succ.length d3, .slice B4 x.preds.length d4]) (by simp [results, Tryz.results107, go_sem, q0, q1, q2, q3]) rfl ?_
 have h1 := Hz4.out
 exact HP.out B1 B2 B3 B4 d1 d2 d3 d4 w4 ⟨(r1.keep K4.kept).more (fun b h => by omega), (r2.keep K4.kept).more (fun b h => by omega), (r3.keep K4.kept).more (fun b h => by omega), (r4.keep K4.kept).more (fun b h => by omega)⟩ hb4
def BlocksCopied (w : World) (l : List Bk) (e : Ending) (w' : World) : Prop := ∃ A c, e = .returned (.slice A l.length c) ∧ RdL bkShape w' (fun b => w.heap.size ≤ b ∧ b < w'.heap.size) A l ∧ Below w.heap.size w w'
theorem infoBk : (Tryz.prog.info? 61).map (fun i => (i.zero, i.size, i.bytes)) = some (some (.agg #[.slice none 0 0, .slice none 0 0, .slice none 0 0, .slice none 0 0]), 4, 96) := by kernel_rfl
set_option maxRecDepth 100000 in
set_option maxHeartbeats 2000000 in
theorem blocks_copy {S : Nat → Prop} (A : Option Addr) (c : Nat) (l : List Bk) (w : World) (hr : RdL bkShape w S A l) (hS : ∀ b, S b → b < w.heap.size) (hl : l.length ≤ 100000)
 (hx : ∀ k, k < l.length → (l.getD k default).phis.length ≤ 1000000 ∧ (l.getD k default).body.length ≤ 1000000 ∧ (l.getD k default).succ.length ≤ 1000000 ∧ (l.getD k default).preds.length ≤ 1000000) :
 Calls Tryz.prog 61 #[.slice A l.length c] w (BlocksCopied w l) := by
 have HP := Lib.hid (fun A' c' w' (h1 : RdL bkShape w' (fun b => w.heap.size ≤ b ∧ b < w'.heap.size) A' l) (h2 : Below w.heap.size w w') => (show BlocksCopied w l (.returned (.slice A' l.length c')) w' from ⟨A', c', rfl, h1, h2⟩))
 generalize BlocksCopied w l = Post at *
 have HR := Lib.hid hr
 have HS := Lib.hid hS
 have HX := Lib.hid hx
 clear hr hS hx
 obtain ⟨ii, hi1, hi2, hi3, hi4⟩ := info_parts infoBk
 have Hi1 := Lib.hid hi1
 have Hi2 := Lib.hid hi2
 have Hi3 := Lib.hid hi3
 have Hi4 := Lib.hid hi4
 clear hi1 hi2 hi3 hi4
 have hmk : ∀ W : World, (Instr.makeSlice 27 (.int .i64 0) (.int .i64 (l.length : Nat))).run Tryz.prog W = .ok (.slice (some ⟨W.heap.size, 0, none⟩) 0 l.length) (W.alloc (.cells (madeCells #[.slice none 0 0, .slice none 0 0, .slice none 0 0, .slice none 0 0] (l.length * 4)) 61)) := fun W => by
  have h := run_make (P := Tryz.prog) W 27 61 ii (.agg #[.slice none 0 0, .slice none 0 0, .slice none 0 0, .slice none 0 0]) Tryz.underlying27 Hi1.out Hi2.out .i64 .i64 0 (l.length : Nat) (by omega) (by omega) (by rw [Hi4.out]; omega) (by omega)
  rw [Int.toNat_natCast, Hi3.out] at h
  exact h
 go_enter Tryz.func61, Tryz.ntmps61
 go_upto_region 2 with (fail)
 generalize hO : Obj.cells (madeCells #[.slice none 0 0, .slice none 0 0, .slice none 0 0, .slice none 0 0] (l.length * 4)) 61 = O at *
 have own0 : (w.alloc O).ownsRow w.heap.size 61 4 (.slice (some ⟨w.heap.size, 0, none⟩) 0 l.length) 0 [] := by
  rw [← hO]
  exact World.ownsRow_made w _ l.length (Nat.le_refl _) (by unfold maxLen; omega) (by rw [size_madeCells])
 have hb0 := (Below.refl w.heap.size w).alloc (Nat.le_refl _) O
 clear hmk hO
 generalize w.alloc O = w1 at *
 go_wp2
 go_loopw [3, 4] (fun v iv wr => ∃ (k c' : Nat) (A' : Option Addr) (hs : List H4), k ≤ l.length ∧ iv = .int .i64 k ∧ v = .slice A' k c' ∧ Hid (hs.length = k) ∧ wr.ownsRow w.heap.size 61 4 (.slice A' k c') k (bkShape.cells (l.take k) hs) ∧ Hid (∀ (j : Nat) (x : Bk) (h : H4), (l.take k)[j]? = some x → hs[j]? = some h → bkShape.inner (fun b => w.heap.size ≤ b ∧ b < wr.heap.size ∧ (Value.slice A' k c').ownBlock ≠ some b) wr x h) ∧ Below w.heap.size w wr) (fun _ iv _ => l.length - (intOf iv).toNat)
 case atStart => exact ⟨0, l.length, _, [], Nat.zero_le _, rfl, rfl, Lib.hid rfl, own0, Lib.hid (fun j x h e => by simp at e), hb0⟩
 case round =>
  clear own0 hb0
  obtain ⟨k, c', A', hs, hk, rfl, rfl, Hhs, own, Hin, hb⟩ := hrel
  by_cases hlt : k < l.length
  · obtain ⟨b, off, A1, c1, A2, c2, A3, c3, A4, c4, rfl, hSb, x0, x1, x2, x3, r1, r2, r3, r4⟩ := rd_bk (HR.out.below hb HS.out) hlt
    have hbb := HS.out b hSb
    have k0 : (0 : Int) ≤ k := by omega
    have k1 : (k : Int) < l.length := by omega
    have hbw := hb.size
    have Htk := Lib.hid (show l.take (k + 1) = l.take k ++ [l.getD k default] by rw [List.take_succ_eq_append_getElem hlt]; simp [hlt])
    have hxk := HX.out k hlt
    generalize l.getD k default = x at *
    have HN := Lib.hid (block_any A1 A2 A3 A4 c1 c2 c3 c4 x wr ((r1.rd (B := w.heap.size) HS.out).more hb.size) ((r2.rd (B := w.heap.size) HS.out).more hb.size) ((r3.rd (B := w.heap.size) HS.out).more hb.size) ((r4.rd (B := w.heap.size) HS.out).more hb.size) hxk.1 hxk.2.1 hxk.2.2.1 hxk.2.2.2)
    clear hxk
    go_wp2_with fail
    refine HN.out.mono ?_
    rintro e w2 ⟨h, rfl, hinn, hb12⟩
    have own2 := own_below own hb12 (Nat.le_refl _)
    have Olt := Lib.hid own.lt
    have hb2 := hb.trans (hb12.mono hb.size)
    have hz12 := hb12.size
    have Hinn := Lib.hid hinn
    have K2 := Lib.hid (KB.of_below (S := fun b => w.heap.size ≤ b ∧ b < wr.heap.size ∧ (Value.slice A' k c').ownBlock ≠ some b) hb12 (fun b h => h.2.1))
    clear own hb hb12 hinn x0 x1 x2 x3 r1 r2 r3 r4 HN
    obtain ⟨⟨D1, e1⟩, ⟨D2, e2⟩, ⟨D3, e3⟩, ⟨D4, e4⟩⟩ := h
    have hcs := cells_snoc bkShape (l := l.take k) (hs := hs) (by have := Hhs.out; rw [List.length_take]; show List.length hs = _; omega) x ⟨(D1, e1), (D2, e2), (D3, e3), (D4, e4)⟩
    rw [← Htk.out] at hcs
    have Hcs := Lib.hid hcs
    clear hcs
    unfold bkv bkShape
    simp only
    go_wp2_with (at_builtin
                 refine wpList_append_row rfl (.tmp 14) (.tmp 20) 27 rfl w.heap.size 61 _ 4 96 Tryz.underlying27 infoBk rfl (by omega) A' c' k (bkShape.cells (l.take k) hs) rfl (own2.alloc _) w2.heap.size 1 1 61 [.slice D1 x.phis.length e1, .slice D2 x.body.length e2, .slice D3 x.succ.length e3, .slice D4 x.preds.length e4] rfl (Blk.new _ _ _) rfl (by intro u hu; simp at hu; rcases hu with rfl | rfl | rfl | rfl <;> rfl) (by unfold maxLen; omega) (by omega) (by simp; omega) ?_
                 intro A6 c6 w3 own3 hg3 hat3)
    have own2a := own2.alloc (.cells #[.slice D1 x.phis.length e1, .slice D2 x.body.length e2, .slice D3 x.succ.length e3, .slice D4 x.preds.length e4] 61)
    have hba := hb2.alloc hb2.size (.cells #[.slice D1 x.phis.length e1, .slice D2 x.body.length e2, .slice D3 x.succ.length e3, .slice D4 x.preds.length e4] 61)
    have hb3 := hba.grown hg3 (by simp; omega) (fun j hj => (own2a.lt j hj).1)
    have K3 := Lib.hid (((KB.refl (fun b => b < w2.heap.size ∧ (Value.slice A' k c').ownBlock ≠ some b) w2).alloc (fun b h => h.1) (.cells #[.slice D1 x.phis.length e1, .slice D2 x.body.length e2, .slice D3 x.succ.length e3, .slice D4 x.preds.length e4] 61)).grown hg3 (fun b h => by simp; omega) (fun b h e => h.2 e.symm))
    have hz3 : w2.heap.size + 1 ≤ w3.heap.size := by have := hg3.size; simpa using this
    go_roundw
    case rel =>
     refine ⟨k + 1, c6, A6, hs ++ [⟨(D1, e1), (D2, e2), (D3, e3), (D4, e4)⟩], by omega, by go_num, rfl, Lib.hid (by simp [Hhs.out]), ?_, Lib.hid (fun j x' h' f1 f2 => ?_), hb3⟩
     · exact (congrArg (fun xs => World.ownsRow w3 w.heap.size 61 4 (.slice A6 (k + 1) c6) (k + 1) xs) Hcs.out).mpr own3
     · have hl1 := Hhs.out
       have hown : ∀ b, (Value.slice A6 (k + 1) c6).ownBlock = some b → (Value.slice A' k c').ownBlock = some b ∨ w2.heap.size ≤ b := fun b e => by
        rcases hat3 with h5 | h5
        · exact .inl (by rw [← h5]; exact e)
        · rw [h5] at e
          have := Option.some.inj e
          simp at this
          exact .inr (by omega)
       rw [Htk.out] at f1
       have hlk : (l.take k).length = k := by rw [List.length_take]; omega
       by_cases hj : j < k
       · rw [List.getElem?_append_left (by omega)] at f1
         rw [List.getElem?_append_left (by omega)] at f2
         refine bkShape.more (bkShape.keep (bkShape.keep (Hin.out j x' h' f1 f2) K2.out.kept) (K3.out.kept.sub (fun b h => ⟨by omega, h.2.2⟩))) (fun b hb => ⟨hb.1, by omega, fun e => ?_⟩)
         rcases hown b e with h5 | h5
         · exact hb.2.2 h5
         · omega
       · have hjk : j = k := by
          have := (List.getElem?_eq_some_iff.1 f1).1
          simp [hlk] at this
          omega
         subst hjk
         rw [List.getElem?_append_right (by omega), hlk] at f1
         rw [List.getElem?_append_right (by omega), hl1] at f2
         simp at f1 f2
         subst f1 f2
         refine bkShape.more (bkShape.keep (bkShape.more (S' := fun b => wr.heap.size ≤ b ∧ b < w2.heap.size) Hinn.out (fun b h => h)) (K3.out.kept.sub (fun b h => ⟨h.2, fun e => ?_⟩))) (fun b hb => ⟨by omega, by omega, fun e => ?_⟩)
         · have := (Olt.out b e).2
           omega
         · rcases hown b e with h5 | h5
           · have := (Olt.out b h5).2
             omega
           · omega
    case measure => simp [intOf]; omega
  · have e : k = l.length := by omega
    subst e
    clear hlt
    go_wp2
    refine HP.out A' c' wr ⟨hs, Hhs.out, ?_, fun j x h f1 f2 => bkShape.more (Hin.out j x h (by simpa using f1) f2) (fun b h => ⟨h.1, h.2.1⟩)⟩ hb
    have own' := own
    rw [List.take_length] at own'
    exact rds_own own' (fun g _ h1 h2 => ⟨h1, h2⟩)
end Go.Proofs.YtjjmpfmhggcjiaaGreatDoor
