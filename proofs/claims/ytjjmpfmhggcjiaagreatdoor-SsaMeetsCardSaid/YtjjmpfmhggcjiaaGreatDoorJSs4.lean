/-
  Ss4.
-/
import Derived.Test.YtjjmpfmhggcjiaaGreatDoorJSs3
set_option linter.unusedSimpArgs false
set_option linter.unusedVariables false
namespace Go.Proofs.YtjjmpfmhggcjiaaGreatDoor
open Go.RowKit Go.Maps
set_option maxRecDepth 100000 in
set_option maxHeartbeats 1000000 in
theorem clone_int (A : Option Addr) (n c : Nat) (xs : List Value) (w : World) (h : Rd w w.heap.size 1 A n xs) (h0 : A = none → n = 0) (hn : n ≤ 1000000) (h1 : ∀ u ∈ xs, u.oneCell' = true) :
    Calls Tryz.prog 51 #[.slice A n c] w (ClonePost w 3 1 n xs) := by
  have q : ∀ (w : World) (a : Option Addr) (n c n' c' : Nat), (binOp .eql 47 (.slice a n c) (.slice none n' c')).run Tryz.prog w = .ok (.bool a.isNone) w := fun w a n c n' c' => Lib.run_eql_slice_nil w _ _ a n c n' c' Tryz.underlying47
  cases A with
  | none =>
    obtain rfl := h0 rfl
    have hx : xs = [] := List.eq_nil_of_length_eq_zero (by simpa using h.1)
    go_enter Tryz.func51, Tryz.ntmps51
    go_wp2
    go_ret
    subst hx
    exact ⟨none, 0, rfl, World.ownsRow_nil _ _ _ _, Below.refl _ _⟩
  | some a =>
    obtain ⟨i0, hi, hz0, hz1, hz2⟩ := info_parts infoIntR
    have hsp : 0 < n → a.spot = none := fun hn0 => by
      obtain ⟨b, off, e, _⟩ := h.2 hn0
      cases e; rfl
    have hc : ∀ j u, xs[j]? = some u → w.cell? (a.add j) = some u := fun j u hu => by
      by_cases hn0 : 0 < n
      · obtain ⟨b, off, e, _, hcc⟩ := h.2 hn0
        cases e
        have := hcc j u hu
        rwa [show (⟨b, off, none⟩ : Addr).add j = ⟨b, off + j, none⟩ from Go.WideShapes.add_plain b off j]
      · have : xs.length = 0 := by have := h.1; omega
        have := (List.getElem?_eq_some_iff.1 hu).1
        omega
    have Hc := Lib.hid hc
    have Hl := Lib.hid h.1
    have H1 := Lib.hid h1
    clear hc h h1 hsp h0
    go_enter Tryz.func51, Tryz.ntmps51
    go_wp2_with (at_builtin
                 refine wpList_append_own_at _ rfl _ _ 47 rfl w.heap.size 3 i0 _ 1 8 Tryz.underlying47 hi hz0 hz1 hz2 rfl (by decide) _ 0 [] rfl (World.ownsRow_made w #[] 0 (Nat.le_refl _) (Nat.zero_le _) rfl) a n c xs rfl Hl.out (fun j u hu => by first | exact Hc.out j u hu | (rw [World.cell?_alloc_lt]; exact Hc.out j u hu; exact World.block_lt_of_cell? w _ (Hc.out j u hu))) H1.out (by unfold maxLen; omega) (by omega) (by simp) ?_
                 intro v' w1 hown hg _ _
                 simp only [Nat.zero_add, List.nil_append] at hown
                 obtain ⟨A', c', rfl⟩ := own_slice hown)
    go_ret
    exact ⟨A', c', rfl, hown, ((Below.refl w.heap.size w).alloc (Nat.le_refl _) _).grown hg (by simp) (fun k hk => by
      have e : some w.heap.size = some k := hk
      cases e
      exact Nat.le_refl _)⟩
/-- One of them is put anew. -/
theorem OwnMat.put {w w' : World} {base : Nat} {e : TypeId} {hs : List (Option Addr × Nat)} {ls : List (List Int)} (M : OwnMat w base e hs ls) (hb : Below w.heap.size w w') {k : Nat} {A : Option Addr} {c : Nat} {l' : List Int} (hk : k < ls.length)
    (hown : w'.ownsRow w.heap.size e 1 (.slice A l'.length c) l'.length (ints l')) (hbase : base ≤ w.heap.size) : OwnMat w' base e (hs.set k (A, c)) (ls.set k l') := by
  have hkh : k < hs.length := by rw [M.len]; exact hk
  have hA : ∀ g, A.map (·.block) = some g → w.heap.size ≤ g := fun g hg => (hown.lt g (by rw [← hg]; cases A <;> rfl)).1
  refine ⟨by simp [M.len], fun i h y h1 h2 => ?_, fun i j h h' g h1 h2 h3 h4 => ?_⟩
  · by_cases e1 : k = i
    · subst e1
      rw [List.getElem?_set_self hkh] at h1
      rw [List.getElem?_set_self hk] at h2
      cases h1; cases h2
      exact own_base hown hbase
    · rw [List.getElem?_set_ne e1] at h1 h2
      exact own_below (M.own i h y h1 h2) hb (Nat.le_refl _)
  · by_cases ei : k = i
    · by_cases ej : k = j
      · omega
      · subst ei
        rw [List.getElem?_set_self hkh] at h1
        rw [List.getElem?_set_ne ej] at h2
        cases h1
        have := hA g h3
        have := (M.block h2 h4).2
        omega
    · by_cases ej : k = j
      · subst ej
        rw [List.getElem?_set_self hkh] at h2
        rw [List.getElem?_set_ne ei] at h1
        cases h2
        have := hA g h4
        have := (M.block h1 h3).2
        omega
      · rw [List.getElem?_set_ne ei] at h1
        rw [List.getElem?_set_ne ej] at h2
        exact M.apart i j h h' g h1 h2 h3 h4
theorem gr_at {f : Fn} {k : Nat} (hk : k < f.blocks.length) : (grF f)[k]? = some (f.blocks.getD k default).succ := by simp [grF, hk]
set_option maxRecDepth 100000 in
set_option maxHeartbeats 4000000 in
theorem graph_any {S : Nat → Prop} (An Ab As : Option Addr) (cn cb cs : Nat) (f : Fn) (w : World) (hbl : RdL bkShape w S Ab f.blocks) (hS : ∀ b, S b → b < w.heap.size) (hB : f.blocks.length ≤ 500) (hrow : ∀ b, b < f.blocks.length → (bkAt f b).succ.length ≤ 1000000) :
    Calls Tryz.prog 19 #[fv An Ab As cn cb cs f] w (MatPost w (grF f)) := by
  have hPP : ∀ hs w', Blk w' (w.heap.size + 1) 47 ⟨hdrs hs (grF f)⟩ → OwnMat w' (w.heap.size + 2) 3 hs (grF f) → Below w.heap.size w w' → MatPost w (grF f) (.returned (.slice (some ⟨w.heap.size + 1, 0, none⟩) f.blocks.length f.blocks.length)) w' := fun hs w' h1 h2 h3 => ⟨_, hs, by simp [grF], h1, h2, by omega, h3⟩
  have HP := Lib.hid hPP
  clear hPP
  generalize MatPost w (grF f) = Post at *
  have hm1 := fun W => run_make_row' (P := Tryz.prog) 50 47 (.slice none 0 0) 24 Tryz.underlying50 infoSl rfl .i64 .i64 f.blocks.length (by omega) (by omega) W
  rw [made_hdrs] at hm1
  have bF := Blk.new w 30 #[.int .i64 f.mth, .int .i64 f.entry, .slice An f.nodes.length cn, .slice Ab f.blocks.length cb, .slice As f.states.length cs]
  have hb1 := (Below.refl w.heap.size w).alloc (Nat.le_refl _) (.cells #[.int .i64 f.mth, .int .i64 f.entry, .slice An f.nodes.length cn, .slice Ab f.blocks.length cb, .slice As f.states.length cs] 30)
  have bF2 := bF.alloc (.cells ⟨hdrs (List.replicate f.blocks.length (none, 0)) (List.replicate f.blocks.length [])⟩ 47)
  have hb2 := hb1.alloc hb1.size (.cells ⟨hdrs (List.replicate f.blocks.length (none, 0)) (List.replicate f.blocks.length [])⟩ 47)
  have bG := Blk.newAt (w := w.alloc (.cells #[.int .i64 f.mth, .int .i64 f.entry, .slice An f.nodes.length cn, .slice Ab f.blocks.length cb, .slice As f.states.length cs] 30)) (g := w.heap.size + 1) (by simp) 47 ⟨hdrs (List.replicate f.blocks.length (none, 0)) (List.replicate f.blocks.length [])⟩
  have y3 : World.cell? _ ⟨w.heap.size, 3, none⟩ = some (.slice Ab f.blocks.length cb) := bF.cell 3
  have y3' : World.cell? _ ⟨w.heap.size, 3, none⟩ = some (.slice Ab f.blocks.length cb) := bF2.cell 3
  clear bF hb1 bF2
  have Hbl := Lib.hid hbl
  have HS := Lib.hid hS
  clear hbl hS
  go_enter Tryz.func19, Tryz.ntmps19
  go_wp2
  go_loopw [13] (fun iv wr => ∃ (k : Nat) (hs : List (Option Addr × Nat)) (ls : List (List Int)), k ≤ f.blocks.length ∧ iv = .int .i64 k ∧ ls.length = f.blocks.length ∧ Hid (∀ j, j < k → ls[j]? = (grF f)[j]?) ∧ Blk wr (w.heap.size + 1) 47 ⟨hdrs hs ls⟩ ∧ OwnMat wr (w.heap.size + 2) 3 hs ls ∧ w.heap.size + 2 ≤ wr.heap.size ∧ Below w.heap.size w wr) (fun iv _ => f.blocks.length - (intOf iv).toNat)
  case atStart => exact ⟨0, _, _, Nat.zero_le _, rfl, by simp, Lib.hid (fun j h => by omega), bG, OwnMat.made _ _ _ _, by simp, hb2⟩
  case round =>
    clear bG hb2 y3 y3'
    obtain ⟨k, hs, ls, hk, rfl, hls, HL, bG, M, hz, hb⟩ := hrel
    by_cases hlt : k < f.blocks.length
    · have k0 : (0 : Int) ≤ k := by omega
      have k1 : (k : Int) < f.blocks.length := by omega
      obtain ⟨bb, off, A1, c1, A2, c2, A3, c3, A4, c4, hAb, hSb, x0, x1, x2, x3, r1, r2, r3, r4⟩ := rd_bk (Hbl.out.below hb HS.out) hlt
      subst hAb
      have hra : (f.blocks.getD k default).succ.length ≤ 1000000 := hrow k hlt
      have Hgr := Lib.hid (gr_at hlt)
      generalize f.blocks.getD k default = xb at *
      have hbbz := HS.out bb hSb
      obtain ⟨A5, c5, hh1, hh2, -⟩ := M.get (k := k) (by omega)
      have lbw : bb < wr.heap.size := by omega
      have bX := Blk.new wr 61 #[.slice A1 xb.phis.length c1, .slice A2 xb.body.length c2, .slice A3 xb.succ.length c3, .slice A4 xb.preds.length c4]
      have hbW : Below wr.heap.size wr (wr.alloc (.cells #[.slice A1 xb.phis.length c1, .slice A2 xb.body.length c2, .slice A3 xb.succ.length c3, .slice A4 xb.preds.length c4] 61)) := (Below.refl _ _).alloc (Nat.le_refl _) _
      have hrc := (r3.keep (Kept.of_below hbW (fun b hb => by have := HS.out b hb; omega))).rd (B := (wr.alloc (.cells #[.slice A1 xb.phis.length c1, .slice A2 xb.body.length c2, .slice A3 xb.succ.length c3, .slice A4 xb.preds.length c4] 61)).heap.size) (fun b hb => by have := HS.out b hb; simp; omega)
      have Hcl := Lib.hid (clone_int A3 xb.succ.length c3 (ints xb.succ) _ hrc (rd_none hrc) hra (fun u hu => ints_one hu))
      have y2 := bX.at2
      clear r1 r2 r3 r4 hrc
      go_wp2_with fail
      refine Hcl.out.mono ?_
      rintro e w7 ⟨A9, c9, rfl, own9, hb79⟩
      have hb7 := hbW.trans (hb79.mono hbW.size)
      have bG7 := bG.below hb7 (by omega)
      have M7 := M.put hb7 (k := k) (l' := xb.succ) (by omega) (own_base own9 (by simp)) hz
      have hbb7 := hb.trans (hb7.mono hb.size)
      have hz7 := hb7.size
      have yk := hdrs_cell bG7 hh1 hh2
      have fk := bG7.frozen k
      have lk := bG7.lt
      clear own9 hb79 hb7 hbW bX bG M hb x0 x1 x2 x3 y2 Hcl
      go_wp2
      go_roundw
      case rel =>
        refine ⟨k + 1, _, _, by omega, by go_num, by simp; omega, Lib.hid (fun j hj => ?_), hdrs_blk_put bG7 k A9 c9 (l := xb.succ) rfl, M7.far (grown_setCell w7 ⟨w.heap.size + 1, k, none⟩ (.slice A9 xb.succ.length c9)) (by show w.heap.size + 1 < w.heap.size + 2; omega), by simp; omega, hbb7.setCell (by show w.heap.size ≤ w.heap.size + 1; omega) _⟩
        by_cases e : k = j
        · subst e
          rw [List.getElem?_set_self (by omega), Hgr.out]
        · rw [List.getElem?_set_ne e]
          exact HL.out j (by omega)
      case measure => simp [intOf]; omega
    · have e : k = f.blocks.length := by omega
      have hge : ¬ (k : Int) < f.blocks.length := by omega
      have hlg : ls = grF f := by
        apply List.ext_getElem?
        intro j
        by_cases hj : j < k
        · exact HL.out j hj
        · rw [List.getElem?_eq_none (by omega), List.getElem?_eq_none (by simp [grF]; omega)]
      subst hlg
      clear hlt e
      go_wp2
      exact HP.out _ _ bG M hb
end Go.Proofs.YtjjmpfmhggcjiaaGreatDoor
