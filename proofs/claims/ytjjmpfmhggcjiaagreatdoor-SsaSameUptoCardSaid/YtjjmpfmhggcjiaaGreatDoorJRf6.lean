/-
 Rf6.
-/
import Derived.Test.YtjjmpfmhggcjiaaGreatDoorJSsCk
set_option linter.unusedSimpArgs false
set_option linter.unusedVariables false
namespace Go.Proofs.YtjjmpfmhggcjiaaGreatDoor
open Go.RowKit Go.Maps
/-- One more is named. -/
def meet1 (us : List Int) (n : Int) : List Int := if 0 ≤ n ∧ n < us.length then us.set n.toNat (us.getD n.toNat 0 + 1) else us
def meetL (us : List Int) (l : List Int) : List Int := l.foldl meet1 us
theorem meet1_len (us : List Int) (n : Int) : (meet1 us n).length = us.length := by
 unfold meet1
 split <;> simp
theorem meetL_len (l : List Int) : ∀ us : List Int, (meetL us l).length = us.length := by
 induction l with
 | nil => intro us; rfl
 | cons n l ih => intro us; show (meetL (meet1 us n) l).length = _; rw [ih, meet1_len]
theorem meet1_le {us : List Int} {n M : Int} (h : ∀ k, 0 ≤ us.getD k 0 ∧ us.getD k 0 ≤ M) : ∀ k, 0 ≤ (meet1 us n).getD k 0 ∧ (meet1 us n).getD k 0 ≤ M + 1 := by
 intro k
 unfold meet1
 have h1 := h k
 split
 · rw [List.getD_eq_getElem?_getD, List.getElem?_set]
   have h2 := h n.toNat
   split
   · split
     · simp only [Option.getD_some]; omega
     · simp; have := h k; omega
   · rw [← List.getD_eq_getElem?_getD]; omega
 · omega
theorem meetL_snoc (us : List Int) (l : List Int) (n : Int) : meetL us (l ++ [n]) = meet1 (meetL us l) n := by
 unfold meetL
 rw [List.foldl_append]
 rfl
theorem meetL_le {M : Int} (l : List Int) : ∀ {us : List Int}, (∀ k, 0 ≤ us.getD k 0 ∧ us.getD k 0 ≤ M) → ∀ k, 0 ≤ (meetL us l).getD k 0 ∧ (meetL us l).getD k 0 ≤ M + l.length := by
 induction l generalizing M with
 | nil => intro us h k; have := h k; simp [meetL]; exact this
 | cons n l ih =>
   intro us h k
   have := ih (M := M + 1) (us := meet1 us n) (meet1_le h) k
   show 0 ≤ (meetL (meet1 us n) l).getD k 0 ∧ (meetL (meet1 us n) l).getD k 0 ≤ _
   simp only [List.length_cons]
   omega
theorem grown_then {w w' w2 : World} {row : Option Nat} (h1 : w.grownBy w' row) (h2 : w'.grownBy w2 row) : w.grownBy w2 row :=
 ⟨h2.os.trans h1.os, h2.tape.trans h1.tape, h2.output.trans h1.output, Nat.le_trans h1.size h2.size, fun k hk hr => (h2.block k (Nat.lt_of_lt_of_le hk h1.size) hr).trans (h1.block k hk hr)⟩
theorem grown_same (w : World) (row : Option Nat) : w.grownBy w row := ⟨rfl, rfl, rfl, Nat.le_refl _, fun _ _ _ => rfl⟩
theorem ints_put {w : World} {g : Nat} {t : TypeId} {l : List Int} (h : Blk w g t ⟨ints l⟩) (k : Nat) (x : Int) : Blk (w.setCell ⟨g, k, none⟩ (.int .i64 x)) g t ⟨ints (l.set k x)⟩ := by
 have := h.set_ k (.int .i64 x)
 unfold ints at this ⊢
 rw [List.map_set]
 simpa using this
def MeetsPost (w : World) (go : Nat) (us : List Int) (e : Ending) (w' : World) : Prop := e = .returned (.tuple #[]) ∧ Blk w' go 3 ⟨ints us⟩ ∧ w.grownBy w' (some go)
set_option maxRecDepth 100000 in
set_option maxHeartbeats 2000000 in
theorem meets_any (A : Option Addr) (c : Nat) (l us : List Int) (M : Int) (gd go : Nat) (w : World) (hr : Rd w w.heap.size 1 A l.length (ints l)) (hne : gd ≠ go) (hd : Blk w gd 47 #[.slice (some ⟨go, 0, none⟩) us.length us.length]) (ho : Blk w go 3 ⟨ints us⟩)
 (hap : RdS w (fun b => b ≠ go ∧ b < w.heap.size) 1 A l.length (ints l)) (hM : ∀ k, 0 ≤ us.getD k 0 ∧ us.getD k 0 ≤ M) (hl : l.length ≤ 1000000) (hM2 : M ≤ 1000000000000) :
 Calls Tryz.prog 46 #[.slice A l.length c, .pointer (some ⟨gd, 0, none⟩)] w (MeetsPost w go (meetL us l)) := by
 have HP := Lib.hid (fun w' (h1 : Blk w' go 3 ⟨ints (meetL us l)⟩) (h2 : w.grownBy w' (some go)) => (show MeetsPost w go (meetL us l) (.returned (.tuple #[])) w' from ⟨rfl, h1, h2⟩))
 generalize MeetsPost w go (meetL us l) = Post at *
 have HA := Lib.hid hap
 have HM := Lib.hid hM
 clear hr hap hM
 go_enter Tryz.func46, Tryz.ntmps46
 go_wp2
 go_loopw [7] (fun iv wr => ∃ k : Nat, k ≤ l.length ∧ iv = .int .i64 k ∧ Blk wr go 3 ⟨ints (meetL us (l.take k))⟩ ∧ Blk wr gd 47 #[.slice (some ⟨go, 0, none⟩) us.length us.length] ∧ w.grownBy wr (some go)) (fun iv _ => l.length - (intOf iv).toNat)
 case atStart => exact ⟨0, Nat.zero_le _, rfl, ho, hd, grown_same _ _⟩
 case round =>
  clear ho hd
  obtain ⟨k, hk, rfl, bO, bD, hg⟩ := hrel
  by_cases hlt : k < l.length
  · obtain ⟨b, off, rfl, hbb, x0⟩ := ints_at (((HA.out.keep (Kept.grown (Kept.refl _ _) hg (fun b h => h.2) (fun b h e => h.1 (Option.some.inj e)))).rd (B := w.heap.size) (fun b h => h.2)).more hg.size) hlt
    have k0 : (0 : Int) ≤ k := by omega
    have k1 : (k : Int) < l.length := by omega
    have Htk := Lib.hid (show meetL us (l.take (k + 1)) = meet1 (meetL us (l.take k)) (l[k]?.getD 0) by rw [← meetL_snoc, List.take_succ_eq_append_getElem hlt, List.getElem?_eq_getElem hlt]; rfl)
    have Hle := Lib.hid (meetL_le (l.take k) HM.out)
    have hlen := meetL_len (l.take k) us
    have hk2 : ((l.take k).length : Int) ≤ 1000000 := by rw [List.length_take]; omega
    have Hk2 := Lib.hid hk2
    clear hk2
    generalize l[k]?.getD 0 = x at *
    generalize meetL us (l.take k) = u at *
    have d0 := bD.at0
    have lD := bD.lt
    by_cases hx0 : 0 ≤ x
    · by_cases hx1 : x < u.length
      · obtain ⟨q, rfl⟩ : ∃ q : Nat, x = q := ⟨x.toNat, by omega⟩
        have hq : q < u.length := by omega
        have y0 := ints_cell bO hq
        have fo := bO.frozen q
        have lO := bO.lt
        have g1 : decide ((q : Int) < us.length) = true := by simp; omega
        have g2 : (q : Int) < us.length := by omega
        have Hq := Lib.hid (show meetL us (l.take (k + 1)) = u.set q (u.getD q 0 + 1) by rw [Htk.out]; unfold meet1; rw [if_pos ⟨hx0, hx1⟩]; rfl)
        have hv := Hle.out q
        have hv2 := Hk2.out
        generalize u.getD q 0 = v at *
        have hwrap : IntKind.i64.wrap (v + 1) = v + 1 := IntWalk.i64_in _ (by omega)
        clear hx1 Htk Hle
        go_wp2
        go_roundw
        case rel => exact ⟨k + 1, by omega, by go_num, by rw [Hq.out]; exact ints_put bO q (v + 1), bD.far (p := ⟨go, q, none⟩) hne (.int .i64 (v + 1)), grown_then hg (grown_setCell wr ⟨go, q, none⟩ (.int .i64 (v + 1)))⟩
        case measure => simp [intOf]; omega
      · have g1 : decide (x < us.length) = false := by simp; omega
        have g2 : ¬ x < us.length := by omega
        have Hq := Lib.hid (show meetL us (l.take (k + 1)) = u by rw [Htk.out]; unfold meet1; rw [if_neg (fun h => hx1 h.2)])
        clear hx1 Htk Hle
        go_wp2
        go_roundw
        case rel => exact ⟨k + 1, by omega, by go_num, by rw [Hq.out]; exact bO, bD, hg⟩
        case measure => simp [intOf]; omega
    · have g1 : decide (0 ≤ x) = false := by simp; omega
      have Hq := Lib.hid (show meetL us (l.take (k + 1)) = u by rw [Htk.out]; unfold meet1; rw [if_neg (fun h => hx0 h.1)])
      clear Htk Hle
      go_wp2
      go_roundw
      case rel => exact ⟨k + 1, by omega, by go_num, by rw [Hq.out]; exact bO, bD, hg⟩
      case measure => simp [intOf]; omega
  · have e : k = l.length := by omega
    subst e
    clear hlt
    go_wp2
    exact bodyPost_end (v := .tuple #[]) (by simp [results, Tryz.results46]) rfl (HP.out wr (by simpa using bO) hg)
def NilPost (w : World) (e : Ending) (w' : World) : Prop := e = .returned (.slice none 0 0) ∧ Below w.heap.size w w'
set_option maxRecDepth 100000 in
set_option maxHeartbeats 2000000 in
theorem named_none (An Ab As : Option Addr) (n1 n2 n3 cn cb cs : Nat) (m en : Int) (w : World) :
 Calls Tryz.prog 47 #[.agg #[.int .i64 m, .int .i64 en, .slice An n1 cn, .slice Ab n2 cb, .slice As n3 cs], .int .i64 (-1)] w (NilPost w) := by
 have HP := Lib.hid (fun w' (h2 : Below w.heap.size w w') => (show NilPost w (.returned (.slice none 0 0)) w' from ⟨rfl, h2⟩))
 generalize NilPost w = Post at *
 have hb := (Below.refl w.heap.size w).alloc (Nat.le_refl _) (.cells #[.int .i64 m, .int .i64 en, .slice An n1 cn, .slice Ab n2 cb, .slice As n3 cs] 30)
 go_enter Tryz.func47, Tryz.ntmps47
 go_wp2
 go_loopw [1, 5] (fun iv lv wr => iv = .int .i64 (-1) ∧ lv = .slice none 0 0 ∧ wr = w.alloc (.cells #[.int .i64 m, .int .i64 en, .slice An n1 cn, .slice Ab n2 cb, .slice As n3 cs] 30)) (fun _ _ _ => 0)
 case atStart => exact ⟨rfl, rfl, rfl⟩
 case round =>
  obtain ⟨rfl, rfl, rfl⟩ := hrel
  go_wp2
  exact HP.out _ hb
/-- How often nodes are named. -/
def usesTo (f : Fn) (k : Nat) : List Int := ((f.nodes.take k).map (·.args)).foldl meetL (List.replicate f.nodes.length 0)
def usesF (f : Fn) : List Int := usesTo f f.nodes.length
theorem usesTo_len (f : Fn) (k : Nat) : (usesTo f k).length = f.nodes.length := by
 unfold usesTo
 generalize ((f.nodes.take k).map (·.args)) = ll
 have : ∀ us : List Int, (ll.foldl meetL us).length = us.length := by
  induction ll with
  | nil => intro us; rfl
  | cons a ll ih => intro us; show ((ll.foldl meetL (meetL us a))).length = _; rw [ih, meetL_len]
 rw [this]
 simp
theorem usesTo_succ {f : Fn} {k : Nat} (hk : k < f.nodes.length) : usesTo f (k + 1) = meetL (usesTo f k) (ndAt f k).args := by
 unfold usesTo
 rw [List.take_succ_eq_append_getElem hk, List.map_append, List.foldl_append]
 simp [ndAt, hk]
theorem usesTo_le {f : Fn} {N : Nat} (hN : ∀ i, i < f.nodes.length → (ndAt f i).args.length ≤ N) : ∀ k, k ≤ f.nodes.length → ∀ j, 0 ≤ (usesTo f k).getD j 0 ∧ (usesTo f k).getD j 0 ≤ (k * N : Nat)
 | 0, _, j => by
   have : (usesTo f 0).getD j 0 = 0 := by
    unfold usesTo
    simp only [List.take_zero, List.map_nil, List.foldl_nil, List.getD_eq_getElem?_getD, List.getElem?_replicate]
    split <;> rfl
   omega
 | k + 1, hk, j => by
   rw [usesTo_succ (by omega)]
   have := meetL_le (ndAt f k).args (usesTo_le hN k (by omega)) j
   have h2 := hN k (by omega)
   have e : (k + 1) * N = k * N + N := Nat.succ_mul _ _
   omega
def UsesPost (w : World) (f : Fn) (e : Ending) (w' : World) : Prop := ∃ go, e = .returned (.slice (some ⟨go, 0, none⟩) f.nodes.length f.nodes.length) ∧ Blk w' go 3 ⟨ints (usesF f)⟩ ∧ Below w.heap.size w w'
set_option maxRecDepth 100000 in
set_option maxHeartbeats 2000000 in
theorem uses_none {S : Nat → Prop} (An Ab As : Option Addr) (n3 cn cb cs : Nat) (f : Fn) (w : World) (hrn : RdL ndShape w S An f.nodes) (hS : ∀ b, S b → b < w.heap.size) (hl : f.nodes.length ≤ 100000) (hx : ∀ i, i < f.nodes.length → (ndAt f i).args.length ≤ 1000000) (hst : ∀ i, i < f.nodes.length → (ndAt f i).st = -1) :
 Calls Tryz.prog 16 #[.agg #[.int .i64 f.mth, .int .i64 f.entry, .slice An f.nodes.length cn, .slice Ab f.blocks.length cb, .slice As n3 cs]] w (UsesPost w f) := by
 have HP := Lib.hid (fun go w' (h1 : Blk w' go 3 ⟨ints (usesF f)⟩) (h2 : Below w.heap.size w w') => (show UsesPost w f (.returned (.slice (some ⟨go, 0, none⟩) f.nodes.length f.nodes.length)) w' from ⟨go, rfl, h1, h2⟩))
 generalize UsesPost w f = Post at *
 have hm2 := fun W => run_make_row' (P := Tryz.prog) 47 3 (.int .i64 0) 8 Tryz.underlying47 infoIntR rfl .i64 .i64 f.nodes.length (by omega) (by omega) W
 rw [made_ints] at hm2
 have bF := ((Blk.new w 30 #[.int .i64 f.mth, .int .i64 f.entry, .slice An f.nodes.length cn, .slice Ab f.blocks.length cb, .slice As n3 cs]))
 have hb1 := (Below.refl w.heap.size w).alloc (Nat.le_refl _) (.cells #[.int .i64 f.mth, .int .i64 f.entry, .slice An f.nodes.length cn, .slice Ab f.blocks.length cb, .slice As n3 cs] 30)
 have HR := Lib.hid hrn
 have HS := Lib.hid hS
 have HX := Lib.hid hx
 have HT := Lib.hid hst
 clear hrn hS hx hst
 go_enter Tryz.func16, Tryz.ntmps16
 go_upto_region 1 with (fail)
 have y2 := bF.at2
 have lF := bF.lt
 go_upto_region 3 with (fail)
 have bF2 := (bF.alloc (.cells ⟨ints (List.replicate f.nodes.length 0)⟩ 3)).alloc (.cells #[.slice (some ⟨w.heap.size + 1, 0, none⟩) f.nodes.length f.nodes.length] 47)
 have bO2 := (Blk.newAt (w := w.alloc (.cells #[.int .i64 f.mth, .int .i64 f.entry, .slice An f.nodes.length cn, .slice Ab f.blocks.length cb, .slice As n3 cs] 30)) (g := w.heap.size + 1) (by simp) 3 ⟨ints (List.replicate f.nodes.length 0)⟩).alloc (.cells #[.slice (some ⟨w.heap.size + 1, 0, none⟩) f.nodes.length f.nodes.length] 47)
 have bD2 := Blk.newAt (w := (w.alloc (.cells #[.int .i64 f.mth, .int .i64 f.entry, .slice An f.nodes.length cn, .slice Ab f.blocks.length cb, .slice As n3 cs] 30)).alloc (.cells ⟨ints (List.replicate f.nodes.length 0)⟩ 3)) (g := w.heap.size + 1 + 1) (by simp) 47 #[.slice (some ⟨w.heap.size + 1, 0, none⟩) f.nodes.length f.nodes.length]
 have hb2 := (hb1.alloc hb1.size (.cells ⟨ints (List.replicate f.nodes.length 0)⟩ 3)).alloc (by simp; omega) (.cells #[.slice (some ⟨w.heap.size + 1, 0, none⟩) f.nodes.length f.nodes.length] 47)
 clear bF hb1 y2 lF hm2
 generalize ((w.alloc (.cells #[.int .i64 f.mth, .int .i64 f.entry, .slice An f.nodes.length cn, .slice Ab f.blocks.length cb, .slice As n3 cs] 30)).alloc (.cells ⟨ints (List.replicate f.nodes.length 0)⟩ 3)).alloc (.cells #[.slice (some ⟨w.heap.size + 1, 0, none⟩) f.nodes.length f.nodes.length] 47) = w2 at *
 have y2 := bF2.at2
 have lF := bF2.lt
 go_wp2
 go_loopw [15] (fun iv wr => ∃ k : Nat, k ≤ f.nodes.length ∧ iv = .int .i64 k ∧ Blk wr (w.heap.size + 1) 3 ⟨ints (usesTo f k)⟩ ∧ Blk wr (w.heap.size + 1 + 1) 47 #[.slice (some ⟨w.heap.size + 1, 0, none⟩) f.nodes.length f.nodes.length] ∧ Blk wr w.heap.size 30 #[.int .i64 f.mth, .int .i64 f.entry, .slice An f.nodes.length cn, .slice Ab f.blocks.length cb, .slice As n3 cs] ∧ Below w.heap.size w wr) (fun iv _ => f.nodes.length - (intOf iv).toNat)
 case atStart => exact ⟨0, Nat.zero_le _, rfl, bO2, bD2, bF2, hb2⟩
 case round =>
  clear bO2 bD2 bF2 hb2 y2 lF
  obtain ⟨k, hk, rfl, bO, bD, bF, hb⟩ := hrel
  by_cases hlt : k < f.nodes.length
  · have k0 : (0 : Int) ≤ k := by omega
    have k1 : (k : Int) < f.nodes.length := by omega
    obtain ⟨b, off, A2, c2, rfl, hSb, x0, x1, x2, x3, x4, x5, x6, hrow⟩ := rd_nd (HR.out.below hb HS.out) hlt
    have hbb := HS.out b hSb
    have hxk := HX.out k hlt
    have htk := HT.out k hlt
    have Hsu := Lib.hid (usesTo_succ hlt)
    have Hle := Lib.hid (usesTo_le (N := 1000000) HX.out k (by omega))
    have Hln := Lib.hid (usesTo_len f k)
    unfold ndAt at hxk htk Hsu
    generalize f.nodes.getD k default = x at *
    rw [htk] at x3
    clear htk
    have hbw := hb.size
    generalize usesTo f k = us at *
    go_upto_region 6 with (fail)
    have bX := Blk.new wr 59 #[.int .i64 x.op, .int .i64 x.a, .int .i64 x.b, .int .i64 (-1), .string x.kind, .int .i64 x.n, .slice A2 x.args.length c2]
    have bO3 := bO.alloc (.cells #[.int .i64 x.op, .int .i64 x.a, .int .i64 x.b, .int .i64 (-1), .string x.kind, .int .i64 x.n, .slice A2 x.args.length c2] 59)
    have bD3 := bD.alloc (.cells #[.int .i64 x.op, .int .i64 x.a, .int .i64 x.b, .int .i64 (-1), .string x.kind, .int .i64 x.n, .slice A2 x.args.length c2] 59)
    have bF3 := bF.alloc (.cells #[.int .i64 x.op, .int .i64 x.a, .int .i64 x.b, .int .i64 (-1), .string x.kind, .int .i64 x.n, .slice A2 x.args.length c2] 59)
    have hb3 := hb.alloc hbw (.cells #[.int .i64 x.op, .int .i64 x.a, .int .i64 x.b, .int .i64 (-1), .string x.kind, .int .i64 x.n, .slice A2 x.args.length c2] 59)
    have hrow3 := hrow.keep (Kept.alloc (Kept.refl _ _) (fun b h => Nat.lt_of_lt_of_le (HS.out b h) hbw) (.cells #[.int .i64 x.op, .int .i64 x.a, .int .i64 x.b, .int .i64 (-1), .string x.kind, .int .i64 x.n, .slice A2 x.args.length c2] 59))
    have hgx : w.heap.size + 2 < wr.heap.size + 1 := by have := bD.lt; omega
    have hz3 : (wr.alloc (.cells #[.int .i64 x.op, .int .i64 x.a, .int .i64 x.b, .int .i64 (-1), .string x.kind, .int .i64 x.n, .slice A2 x.args.length c2] 59)).heap.size = wr.heap.size + 1 := by simp
    have Hz3 := Lib.hid hz3
    clear bO bD bF hb hrow x0 x1 x2 x3 x4 x5 x6 hz3
    generalize wr.alloc (.cells #[.int .i64 x.op, .int .i64 x.a, .int .i64 x.b, .int .i64 (-1), .string x.kind, .int .i64 x.n, .slice A2 x.args.length c2] 59) = w3 at *
    generalize wr.heap.size = gx at *
    have z6 : w3.cell? ⟨gx, 6, none⟩ = some (.slice A2 x.args.length c2) := bX.cell 6
    have z3 := bX.at3
    have lX := bX.lt
    have hl1 := Hln.out
    have hM := meets_any A2 c2 x.args us (k * 1000000 : Nat) (w.heap.size + 1 + 1) (w.heap.size + 1) w3 ((hrow3.rd (B := w.heap.size) HS.out).more hb3.size) (by omega) (by rw [hl1]; exact bD3) bO3 (hrow3.more (fun b h => ⟨by have := HS.out b h; omega, by have := HS.out b h; have := hb3.size; omega⟩)) Hle.out hxk (by have : k * 1000000 ≤ 100000 * 1000000 := Nat.mul_le_mul_right _ (by omega); omega)
    have HM := Lib.hid hM
    clear hM hl1
    go_wp2_with fail
    refine HM.out.mono ?_
    rintro e w4 ⟨rfl, bO4, hg4⟩
    have hlm : (meetL us x.args).length = f.nodes.length := by rw [meetL_len]; exact Hln.out
    rw [← Hsu.out] at bO4
    have bD4 := bD3.grown hg4 (by simp)
    have bF4 := bF3.grown hg4 (by simp)
    have bX4 := bX.grown hg4 (by simp; omega)
    have hb4 := hb3.grown hg4 hb3.size (fun j hj => by cases hj; omega)
    clear bX bO3 bD3 bF3 hb3 hg4 z6 z3 lX HM
    have z3 := bX4.at3
    have lX := bX4.lt
    have y0 := bF4.at0
    have y1 := bF4.at1
    have y2 := bF4.at2
    have y3 := bF4.at3
    have y4 : w4.cell? ⟨w.heap.size, 4, none⟩ = some (.slice As n3 cs) := bF4.cell 4
    have lF := bF4.lt
    go_wp2_with fail
    refine (named_none _ _ _ _ _ _ _ _ _ _ _ w4).mono ?_
    rintro e w5 ⟨rfl, hb45⟩
    have bO5 := bO4.below hb45 bO4.lt
    have bD5 := bD4.below hb45 bD4.lt
    have bF5 := bF4.below hb45 bF4.lt
    have hb5 := hb4.trans (hb45.mono hb4.size)
    clear bO4 bD4 bF4 bX4 hb4 hb45 z3 lX y0 y1 y2 y3 y4 lF hlm hrow3
    have hl5 := usesTo_len f (k + 1)
    have HM5 := Lib.hid (show Calls Tryz.prog 46 #[.slice none 0 0, .pointer (some ⟨w.heap.size + 1 + 1, 0, none⟩)] w5 (MeetsPost w5 (w.heap.size + 1) (usesTo f (k + 1))) from
     meets_any none 0 [] (usesTo f (k + 1)) ((k + 1) * 1000000 : Nat) (w.heap.size + 1 + 1) (w.heap.size + 1) w5 (Rd.nil _ _ _ _) (by omega) (by rw [hl5]; exact bD5) bO5 (RdS.nil _ _ _ _) (usesTo_le (N := 1000000) HX.out (k + 1) hlt) (by simp) (by have : (k + 1) * 1000000 ≤ 100000 * 1000000 := Nat.mul_le_mul_right _ (by omega); omega))
    clear hl5
    go_wp2_with fail
    refine HM5.out.mono ?_
    rintro e w6 ⟨rfl, bO6, hg6⟩
    have bD6 := bD5.grown hg6 (by simp)
    have bF6 := bF5.grown hg6 (by simp)
    have hb6 := hb5.grown hg6 hb5.size (fun j hj => by cases hj; omega)
    clear bO5 bD5 bF5 hb5 hg6 HM5
    go_wp2
    go_roundw
    case rel => exact ⟨k + 1, by omega, by go_num, bO6, bD6, bF6, hb6⟩
    case measure => simp [intOf]; omega
  · have e : k = f.nodes.length := by omega
    subst e
    have d0 := bD.at0
    have lD := bD.lt
    clear hlt
    go_wp2
    exact HP.out _ _ bO hb
end Go.Proofs.YtjjmpfmhggcjiaaGreatDoor
