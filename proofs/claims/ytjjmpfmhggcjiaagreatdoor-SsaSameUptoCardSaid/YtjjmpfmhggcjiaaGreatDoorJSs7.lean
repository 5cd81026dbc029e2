/-
 Ss4, Ss5, Ss7.
-/
import Derived.Test.YtjjmpfmhggcjiaaGreatDoorJSs3
import Derived.Test.YtjjmpfmhggcjiaaGreatDoorJDom4
set_option linter.unusedSimpArgs false
set_option linter.unusedVariables false
namespace Go.Proofs.YtjjmpfmhggcjiaaGreatDoor
open Go.RowKit Go.Maps
set_option maxRecDepth 100000 in
set_option maxHeartbeats 1000000 in
theorem clone_int (A : Option Addr) (n c : Nat) (xs : List Value) (w : World) (h : Rd w w.heap.size 1 A n xs) (h0 : A = none → n = 0) (hn : n ≤ 1000000) (h1 : ∀ u ∈ xs, u.oneCell' = true) :
 Calls Tryz.prog 51 #[.slice A n c] w (ClonePost w 3 1 n xs) := by
 have q : ∀ (w : World) (a : Option Addr) (n c n' c' : Nat), (binOp .eql 47 (.slice a n c) (.slice none n' c')).run Tryz.prog w = .ok (.bool a.isNone) w := fun w a n c n' c' => Lib.run_eql_slice_nil w _ _ a n c n' c' Tryz.underlying47
 cases A with
 | none =>
   obtain rfl := h0 rfl
   have hx : xs = [] := List.eq_nil_of_length_eq_zero (by simpa using h.1)
   go_enter Tryz.func51, Tryz.ntmps51
   go_wp2
   go_ret
   subst hx
   exact ⟨none, 0, rfl, World.ownsRow_nil _ _ _ _, Below.refl _ _⟩
 | some a =>
   obtain ⟨i0, hi, hz0, hz1, hz2⟩ := info_parts infoIntR
   have hsp : 0 < n → a.spot = none := fun hn0 => by
    obtain ⟨b, off, e, _⟩ := h.2 hn0
    cases e; rfl
   have hc : ∀ j u, xs[j]? = some u → w.cell? (a.add j) = some u := fun j u hu => by
    by_cases hn0 : 0 < n
    · obtain ⟨b, off, e, _, hcc⟩ := h.2 hn0
      cases e
      have := hcc j u hu
      rwa [show (⟨b, off, none⟩ : Addr).add j = ⟨b, off + j, none⟩ from Go.WideShapes.add_plain b off j]
    · have : xs.length = 0 := by have := h.1; omega
      have := (List.getElem?_eq_some_iff.1 hu).1
      omega
   have Hc := Lib.hid hc
   have Hl := Lib.hid h.1
   have H1 := Lib.hid h1
   clear hc h h1 hsp h0
   go_enter Tryz.func51, Tryz.ntmps51
   go_wp2_with (at_builtin
                refine wpList_append_own_at _ rfl _ _ 47 rfl w.heap.size 3 i0 _ 1 8 Tryz.underlying47 hi hz0 hz1 hz2 rfl (by decide) _ 0 [] rfl (World.ownsRow_made w #[] 0 (Nat.le_refl _) (Nat.zero_le _) rfl) a n c xs rfl Hl.out (fun j u hu => by first | exact Hc.out j u hu | (rw [World.cell?_alloc_lt]; exact Hc.out j u hu; exact World.block_lt_of_cell? w _ (Hc.out j u hu))) H1.out (by unfold maxLen; omega) (by omega) (by simp) ?_
                intro v' w1 hown hg _ _
                simp only [Nat.zero_add, List.nil_append] at hown
                obtain ⟨A', c', rfl⟩ := own_slice hown)
   go_ret
   exact ⟨A', c', rfl, hown, ((Below.refl w.heap.size w).alloc (Nat.le_refl _) _).grown hg (by simp) (fun k hk => by
    have e : some w.heap.size = some k := hk
    cases e
    exact Nat.le_refl _)⟩
/-- One of them is put anew. -/
theorem OwnMat.put {w w' : World} {base : Nat} {e : TypeId} {hs : List (Option Addr × Nat)} {ls : List (List Int)} (M : OwnMat w base e hs ls) (hb : Below w.heap.size w w') {k : Nat} {A : Option Addr} {c : Nat} {l' : List Int} (hk : k < ls.length)
 (hown : w'.ownsRow w.heap.size e 1 (.slice A l'.length c) l'.length (ints l')) (hbase : base ≤ w.heap.size) : OwnMat w' base e (hs.set k (A, c)) (ls.set k l') := by
 have hkh : k < hs.length := by rw [M.len]; exact hk
 have hA : ∀ g, A.map (·.block) = some g → w.heap.size ≤ g := fun g hg => (hown.lt g (by rw [← hg]; cases A <;> rfl)).1
 refine ⟨by simp [M.len], fun i h y h1 h2 => ?_, fun i j h h' g h1 h2 h3 h4 => ?_⟩
 · by_cases e1 : k = i
   · subst e1
     rw [List.getElem?_set_self hkh] at h1
     rw [List.getElem?_set_self hk] at h2
     cases h1; cases h2
     exact own_base hown hbase
   · rw [List.getElem?_set_ne e1] at h1 h2
     exact own_below (M.own i h y h1 h2) hb (Nat.le_refl _)
 · by_cases ei : k = i
   · by_cases ej : k = j
     · omega
     · subst ei
       rw [List.getElem?_set_self hkh] at h1
       rw [List.getElem?_set_ne ej] at h2
       cases h1
       have := hA g h3
       have := (M.block h2 h4).2
       omega
   · by_cases ej : k = j
     · subst ej
       rw [List.getElem?_set_self hkh] at h2
       rw [List.getElem?_set_ne ei] at h1
       cases h2
       have := hA g h4
       have := (M.block h1 h3).2
       omega
     · rw [List.getElem?_set_ne ei] at h1
       rw [List.getElem?_set_ne ej] at h2
       exact M.apart i j h h' g h1 h2 h3 h4
theorem gr_at {f : Fn} {k : Nat} (hk : k < f.blocks.length) : (grF f)[k]? = some (f.blocks.getD k default).succ := by simp [grF, hk]
set_option maxRecDepth 100000 in
set_option maxHeartbeats 4000000 in
theorem graph_any {S : Nat → Prop} (An Ab As : Option Addr) (cn cb cs : Nat) (f : Fn) (w : World) (hbl : RdL bkShape w S Ab f.blocks) (hS : ∀ b, S b → b < w.heap.size) (hB : f.blocks.length ≤ 500) (hrow : ∀ b, b < f.blocks.length → (bkAt f b).succ.length ≤ 1000000) :
 Calls Tryz.prog 19 #[fv An Ab As cn cb cs f] w (MatPost w (grF f)) := by
 have hPP : ∀ hs w', Blk w' (w.heap.size + 1) 47 ⟨hdrs hs (grF f)⟩ → OwnMat w' (w.heap.size + 2) 3 hs (grF f) → Below w.heap.size w w' → MatPost w (grF f) (.returned (.slice (some ⟨w.heap.size + 1, 0, none⟩) f.blocks.length f.blocks.length)) w' := fun hs w' h1 h2 h3 => ⟨_, hs, by simp [grF], h1, h2, by omega, h3⟩
 have HP := Lib.hid hPP
 clear hPP
 generalize MatPost w (grF f) = Post at *
 have hm1 := fun W => run_make_row' (P := Tryz.prog) 50 47 (.slice none 0 0) 24 Tryz.underlying50 infoSl rfl .i64 .i64 f.blocks.length (by omega) (by omega) W
 rw [made_hdrs] at hm1
 have bF := Blk.new w 30 #[.int .i64 f.mth, .int .i64 f.entry, .slice An f.nodes.length cn, .slice Ab f.blocks.length cb, .slice As f.states.length cs]
 have hb1 := (Below.refl w.heap.size w).alloc (Nat.le_refl _) (.cells #[.int .i64 f.mth, .int .i64 f.entry, .slice An f.nodes.length cn, .slice Ab f.blocks.length cb, .slice As f.states.length cs] 30)
 have bF2 := bF.alloc (.cells ⟨hdrs (List.replicate f.blocks.length (none, 0)) (List.replicate f.blocks.length [])⟩ 47)
 have hb2 := hb1.alloc hb1.size (.cells ⟨hdrs (List.replicate f.blocks.length (none, 0)) (List.replicate f.blocks.length [])⟩ 47)
 have bG := Blk.newAt (w := w.alloc (.cells #[.int .i64 f.mth, .int .i64 f.entry, .slice An f.nodes.length cn, .slice Ab f.blocks.length cb, .slice As f.states.length cs] 30)) (g := w.heap.size + 1) (by simp) 47 ⟨hdrs (List.replicate f.blocks.length (none, 0)) (List.replicate f.blocks.length [])⟩
 have y3 : World.cell? _ ⟨w.heap.size, 3, none⟩ = some (.slice Ab f.blocks.length cb) := bF.cell 3
 have y3' : World.cell? _ ⟨w.heap.size, 3, none⟩ = some (.slice Ab f.blocks.length cb) := bF2.cell 3
 clear bF hb1 bF2
 have Hbl := Lib.hid hbl
 have HS := Lib.hid hS
 clear hbl hS
 go_enter Tryz.func19, Tryz.ntmps19
 go_wp2
 go_loopw [13] (fun iv wr => ∃ (k : Nat) (hs : List (Option Addr × Nat)) (ls : List (List Int)), k ≤ f.blocks.length ∧ iv = .int .i64 k ∧ ls.length = f.blocks.length ∧ Hid (∀ j, j < k → ls[j]? = (grF f)[j]?) ∧ Blk wr (w.heap.size + 1) 47 ⟨hdrs hs ls⟩ ∧ OwnMat wr (w.heap.size + 2) 3 hs ls ∧ w.heap.size + 2 ≤ wr.heap.size ∧ Below w.heap.size w wr) (fun iv _ => f.blocks.length - (intOf iv).toNat)
 case atStart => exact ⟨0, _, _, Nat.zero_le _, rfl, by simp, Lib.hid (fun j h => by omega), bG, OwnMat.made _ _ _ _, by simp, hb2⟩
 case round =>
  clear bG hb2 y3 y3'
  obtain ⟨k, hs, ls, hk, rfl, hls, HL, bG, M, hz, hb⟩ := hrel
  by_cases hlt : k < f.blocks.length
  · have k0 : (0 : Int) ≤ k := by omega
    have k1 : (k : Int) < f.blocks.length := by omega
    obtain ⟨bb, off, A1, c1, A2, c2, A3, c3, A4, c4, hAb, hSb, x0, x1, x2, x3, r1, r2, r3, r4⟩ := rd_bk (Hbl.out.below hb HS.out) hlt
    subst hAb
    have hra : (f.blocks.getD k default).succ.length ≤ 1000000 := hrow k hlt
    have Hgr := Lib.hid (gr_at hlt)
    generalize f.blocks.getD k default = xb at *
    have hbbz := HS.out bb hSb
    obtain ⟨A5, c5, hh1, hh2, -⟩ := M.get (k := k) (by omega)
    have lbw : bb < wr.heap.size := by omega
    have bX := Blk.new wr 61 #[.slice A1 xb.phis.length c1, .slice A2 xb.body.length c2, .slice A3 xb.succ.length c3, .slice A4 xb.preds.length c4]
    have hbW : Below wr.heap.size wr (wr.alloc (.cells #[.slice A1 xb.phis.length c1, .slice A2 xb.body.length c2, .slice A3 xb.succ.length c3, .slice A4 xb.preds.length c4] 61)) := (Below.refl _ _).alloc (Nat.le_refl _) _
    have hrc := (r3.keep (Kept.of_below hbW (fun b hb => by have := HS.out b hb; omega))).rd (B := (wr.alloc (.cells #[.slice A1 xb.phis.length c1, .slice A2 xb.body.length c2, .slice A3 xb.succ.length c3, .slice A4 xb.preds.length c4] 61)).heap.size) (fun b hb => by have := HS.out b hb; simp; omega)
    have Hcl := Lib.hid (clone_int A3 xb.succ.length c3 (ints xb.succ) _ hrc (rd_none hrc) hra (fun u hu => ints_one hu))
    have y2 := bX.at2
    clear r1 r2 r3 r4 hrc
    go_wp2_with fail
    refine Hcl.out.mono ?_
    rintro e w7 ⟨A9, c9, rfl, own9, hb79⟩
    have hb7 := hbW.trans (hb79.mono hbW.size)
    have bG7 := bG.below hb7 (by omega)
    have M7 := M.put hb7 (k := k) (l' := xb.succ) (by omega) (own_base own9 (by simp)) hz
    have hbb7 := hb.trans (hb7.mono hb.size)
    have hz7 := hb7.size
    have yk := hdrs_cell bG7 hh1 hh2
    have fk := bG7.frozen k
    have lk := bG7.lt
    clear own9 hb79 hb7 hbW bX bG M hb x0 x1 x2 x3 y2 Hcl
    go_wp2
    go_roundw
    case rel =>
     refine ⟨k + 1, _, _, by omega, by go_num, by simp; omega, Lib.hid (fun j hj => ?_), hdrs_blk_put bG7 k A9 c9 (l := xb.succ) rfl, M7.far (grown_setCell w7 ⟨w.heap.size + 1, k, none⟩ (.slice A9 xb.succ.length c9)) (by show w.heap.size + 1 < w.heap.size + 2; omega), by simp; omega, hbb7.setCell (by show w.heap.size ≤ w.heap.size + 1; omega) _⟩
     by_cases e : k = j
     · subst e
       rw [List.getElem?_set_self (by omega), Hgr.out]
     · rw [List.getElem?_set_ne e]
       exact HL.out j (by omega)
    case measure => simp [intOf]; omega
  · have e : k = f.blocks.length := by omega
    have hge : ¬ (k : Int) < f.blocks.length := by omega
    have hlg : ls = grF f := by
     apply List.ext_getElem?
     intro j
     by_cases hj : j < k
     · exact HL.out j hj
     · rw [List.getElem?_eq_none (by omega), List.getElem?_eq_none (by simp [grF]; omega)]
    subst hlg
    clear hlt e
    go_wp2
    exact HP.out _ _ bG M hb
end Go.Proofs.YtjjmpfmhggcjiaaGreatDoor
namespace Go.Proofs.YtjjmpfmhggcjiaaGreatDoor
open Go.RowKit Go.Maps
noncomputable def abvB (E : Nat → Nat → Prop) (nB : Nat) (blk plc : List Int) (a n : Nat) : Bool := dec (if blk.getD a 0 = blk.getD n 0 then plc.getD a 0 < plc.getD n 0 else aboveP E nB (blk.getD a 0) (blk.getD n 0))
set_option maxRecDepth 100000 in
set_option maxHeartbeats 2000000 in
theorem chkAbove_any {E : Nat → Nat → Prop} {nB : Nat} {idm dep : List Int} (T : TreeOk E nB idm dep) (hn : nB ≤ 100000) {w : World} {gc gb gp gt gi gd N : Nat} {blk plc : List Int} (H : TreeAt w gt gi gd nB idm dep)
 (c8 : w.cell? ⟨gc, 8, none⟩ = some (.slice (some ⟨gb, 0, none⟩) N N)) (c9 : w.cell? ⟨gc, 9, none⟩ = some (.slice (some ⟨gp, 0, none⟩) N N)) (c10 : w.cell? ⟨gc, 10, none⟩ = some (.pointer (some ⟨gt, 0, none⟩)))
 (b1 : Blk w gb 3 ⟨ints blk⟩) (b2 : Blk w gp 3 ⟨ints plc⟩) (hl1 : blk.length = N) (hl2 : plc.length = N) (a n : Nat) (ha : a < N) (hnN : n < N) :
 Calls Tryz.prog 95 #[.pointer (some ⟨gc, 0, none⟩), .int .i64 a, .int .i64 n] w (AboveP w (abvB E nB blk plc a n)) := by
 have hPP : ∀ r q, abvB E nB blk plc a n = r → AboveP w (abvB E nB blk plc a n) (.returned (.bool r)) (w.drewN q) := fun r q e => ⟨q, by rw [e], rfl⟩
 have HP := Lib.hid hPP
 clear hPP
 generalize AboveP w (abvB E nB blk plc a n) = Post at *
 have x1 := ints_cell b1 (show a < blk.length by omega)
 have x2 := ints_cell b1 (show n < blk.length by omega)
 have z1 := ints_cell b2 (show a < plc.length by omega)
 have z2 := ints_cell b2 (show n < plc.length by omega)
 have hF : abvB E nB blk plc a n = dec (if blk.getD a 0 = blk.getD n 0 then plc.getD a 0 < plc.getD n 0 else aboveP E nB (blk.getD a 0) (blk.getD n 0)) := rfl
 have Hab := Lib.hid (fun q => above_any T hn (w := (w.drewN q).drew) (gt := gt) (gi := gi) (gd := gd) ⟨H.t1, H.t2, H.bi, H.bd⟩ (blk.getD a 0) (blk.getD n 0))
 generalize blk.getD a 0 = ba at *
 generalize blk.getD n 0 = bn at *
 generalize plc.getD a 0 = pa at *
 generalize plc.getD n 0 = pn at *
 have a0 : (0 : Int) ≤ a := by omega
 have a1 : (a : Int) < N := by omega
 have n0 : (0 : Int) ≤ n := by omega
 have n1 : (n : Int) < N := by omega
 clear H T b1 b2 hl1 hl2
 by_cases he : ba = bn
 · rw [if_pos he] at hF
   have g1 : (ba == bn) = true := by simpa using he
   by_cases hp : pa < pn
   · have HB := Lib.hid (hF.trans (dec_t hp))
     have g2 : decide (pa < pn) = true := by simpa using hp
     subst he
     clear hF hp g1
     have g1 : (ba == ba) = true := by simp
     go_enter Tryz.func95, Tryz.ntmps95
     go_wp2
     go_quiet (fail)
     rename Nat => q1
     go_wp2
     go_quiet (fail)
     rename Nat => q2
     go_wp2
     first | exact HP.out _ _ HB.out | (rw [World.drewN_drewN]; exact HP.out _ _ HB.out)
   · have HB := Lib.hid (hF.trans (dec_f hp))
     have g2 : decide (pa < pn) = false := by simpa using hp
     subst he
     clear hF hp g1
     go_enter Tryz.func95, Tryz.ntmps95
     go_wp2
     go_quiet (fail)
     rename Nat => q1
     go_wp2
     go_quiet (fail)
     rename Nat => q2
     go_wp2
     first | exact HP.out _ _ HB.out | (rw [World.drewN_drewN]; exact HP.out _ _ HB.out)
 · rw [if_neg he] at hF
   have g1 : (ba == bn) = false := by simpa using he
   have HB := Lib.hid (show abvB E nB blk plc a n = aboveB E nB ba bn from hF)
   clear hF he
   generalize aboveB E nB ba bn = ab at *
   go_enter Tryz.func95, Tryz.ntmps95
   go_wp2
   go_quiet (fail)
   rename Nat => q1
   go_wp2
   refine wpJ_start (S := fun W => W.cell? ⟨gc, 8, none⟩ = some (.slice (some ⟨gb, 0, none⟩) N N) ∧ W.cell? ⟨gc, 10, none⟩ = some (.pointer (some ⟨gt, 0, none⟩)) ∧ W.cell? ⟨gb, a, none⟩ = some (.int .i64 ba) ∧ W.cell? ⟨gb, n, none⟩ = some (.int .i64 bn)) (fun _ => true) (by kernel_rfl) ⟨c8, c10, x1, x2⟩ (fun HS => ?_)
   refine takeQ 0 37 rfl HS (.inl ⟨rfl, fun W hW => by obtain ⟨h8, h10, h1, h2⟩ := hW; go_simp; rfl⟩) ?_
   simp only [pS]
   refine takeQ 1 38 rfl HS (.inl ⟨rfl, fun W hW => by obtain ⟨h8, h10, h1, h2⟩ := hW; go_simp; rfl⟩) ?_
   simp only [pS]
   refine takeQ 2 39 rfl HS (.inl ⟨rfl, fun W hW => by obtain ⟨h8, h10, h1, h2⟩ := hW; go_simp; rfl⟩) ?_
   simp only [pS]
   refine takeQ 3 40 rfl HS (.inl ⟨rfl, fun W hW => by obtain ⟨h8, h10, h1, h2⟩ := hW; go_simp; rfl⟩) ?_
   simp only [pS]
   refine takeQ 4 41 rfl HS (.inl ⟨rfl, fun W hW => by obtain ⟨h8, h10, h1, h2⟩ := hW; go_simp; rfl⟩) ?_
   simp only [pS]
   refine takeQ 5 42 rfl HS (.inl ⟨rfl, fun W hW => by obtain ⟨h8, h10, h1, h2⟩ := hW; go_simp; rfl⟩) ?_
   simp only [pS]
   refine takeQ 6 43 rfl HS (.inl ⟨rfl, fun W hW => by obtain ⟨h8, h10, h1, h2⟩ := hW; go_simp; rfl⟩) ?_
   simp only [pS]
   refine takeQ 7 44 rfl HS (.inl ⟨rfl, fun W hW => by obtain ⟨h8, h10, h1, h2⟩ := hW; go_simp; rfl⟩) ?_
   simp only [pS]
   refine takeQ 8 45 rfl HS (.inl ⟨rfl, fun W hW => by obtain ⟨h8, h10, h1, h2⟩ := hW; go_simp; rfl⟩) ?_
   simp only [pS]
   refine takeQ 9 46 rfl HS (.inl ⟨rfl, fun W hW => by obtain ⟨h8, h10, h1, h2⟩ := hW; go_simp; rfl⟩) ?_
   simp only [pS]
   refine takeQ 10 47 rfl HS (.inl ⟨rfl, fun W hW => by obtain ⟨h8, h10, h1, h2⟩ := hW; go_simp; rfl⟩) ?_
   simp only [pS]
   refine takeQ 11 48 rfl HS (.inl ⟨rfl, fun W hW => by obtain ⟨h8, h10, h1, h2⟩ := hW; go_simp; rfl⟩) ?_
   simp only [pS]
   refine takeQ 12 49 rfl HS (.inl ⟨rfl, fun W hW => by obtain ⟨h8, h10, h1, h2⟩ := hW; go_simp; rfl⟩) ?_
   simp only [pS]
   refine takeQ 13 50 rfl HS (.inl ⟨rfl, fun W hW => by obtain ⟨h8, h10, h1, h2⟩ := hW; go_simp; rfl⟩) ?_
   simp only [pS]
   refine takeQ 14 51 rfl HS (.inl ⟨rfl, fun W hW => by obtain ⟨h8, h10, h1, h2⟩ := hW; go_simp; rfl⟩) ?_
   simp only [pS]
   refine takeQ 15 52 rfl HS (.inl ⟨rfl, fun W hW => by obtain ⟨h8, h10, h1, h2⟩ := hW; go_simp; rfl⟩) ?_
   simp only [pS]
   refine takeQ 16 53 rfl HS (.inl ⟨rfl, fun W hW => by obtain ⟨h8, h10, h1, h2⟩ := hW; go_simp; rfl⟩) ?_
   simp only [pS]
   refine takeQ 17 54 rfl HS (.inl ⟨rfl, fun W hW => by obtain ⟨h8, h10, h1, h2⟩ := hW; go_simp; rfl⟩) ?_
   simp only [pS]
   refine stepQ 18 rfl (fun K HK => ?_)
   go_simp
   refine (Hab.out _).mono ?_
   rintro e w9 ⟨qq, rfl, rfl⟩
   have HS9 : (((w.drewN q1).drew).drewN qq).cell? ⟨gc, 8, none⟩ = some (.slice (some ⟨gb, 0, none⟩) N N) ∧ (((w.drewN q1).drew).drewN qq).cell? ⟨gc, 10, none⟩ = some (.pointer (some ⟨gt, 0, none⟩)) ∧ (((w.drewN q1).drew).drewN qq).cell? ⟨gb, a, none⟩ = some (.int .i64 ba) ∧ (((w.drewN q1).drew).drewN qq).cell? ⟨gb, n, none⟩ = some (.int .i64 bn) := ⟨c8, c10, x1, x2⟩
   refine HK.out _ _ (fun _ => HS9) ?_
   clear HK
   try simp only [pS]
   refine takeQ 19 6 rfl HS9 (.inl ⟨rfl, fun W hW => by go_simp; rfl⟩) ?_
   simp only [pS]
   refine wpAnyJ_done (by kernel_rfl) ?_ _
   have hw : ((w.drewN q1).drew).drewN qq = w.drewN (q1 + 1 + qq) := by simp [World.drewN, World.drew, Nat.add_assoc]
   rw [hw]
   go_wp2
   exact HP.out _ _ HB.out
end Go.Proofs.YtjjmpfmhggcjiaaGreatDoor
namespace Go.Proofs.YtjjmpfmhggcjiaaGreatDoor
open Go.RowKit Go.Maps
/-- slices.Equal of numbers. -/
theorem equal_any {B B' : Nat} (A1 A2 : Option Addr) (c1 c2 : Nat) (l1 l2 : List Int) (w : World) (h1 : Rd w B 1 A1 l1.length (ints l1)) (h2 : Rd w B' 1 A2 l2.length (ints l2)) (hn : l1.length ≤ 1000000000) :
 Calls Tryz.prog 91 #[.slice A1 l1.length c1, .slice A2 l2.length c2] w fun e w' => e = .returned (.bool (decide (l1 = l2))) ∧ ∃ q, w' = w.drewN q := by
 by_cases hl : l1.length = l2.length
 · by_cases h0 : l1.length = 0
   · have e1 := List.eq_nil_of_length_eq_zero h0
     have e2 := List.eq_nil_of_length_eq_zero (l := l2) (by omega)
     subst e1 e2
     exact (Any.slices_Equal_int_empty lays111 A1 A2 c1 0 c2 w (by omega)).mono fun e w' ⟨h1, h2⟩ => ⟨h1, 0, h2⟩
   · obtain ⟨b1, o1, rfl, _, y1⟩ := h1.2 (by omega)
     obtain ⟨b2, o2, rfl, _, y2⟩ := h2.2 (by omega)
     refine (Any.slices_Equal_int lays111 b1 o1 l1.length c1 b2 o2 l2.length c2 l1 l2 w (Nat.le_refl _) (Nat.le_refl _) (by omega) (by omega) (fun j hj => y1 j _ (by simp [ints, hj])) (fun j hj => y2 j _ (by simp [ints, hj]))).mono fun e w' ⟨h1, h2⟩ => ⟨?_, h2⟩
     rw [h1, List.take_length, List.take_length]
     congr 2
     rw [Bool.eq_iff_iff]
     simp
 · refine (Any.slices_Equal_int_lens lays111 A1 A2 l1.length c1 l2.length c2 w hl).mono fun e w' ⟨h1, h2⟩ => ⟨?_, 0, h2⟩
   rw [h1, decide_eq_false (fun e => hl (by rw [e]))]
theorem equal_eq {B B' : Nat} {A1 A2 : Option Addr} {c1 c2 : Nat} {l1 l2 : List Int} {b : Bool} (hb : decide (l1 = l2) = b) (w : World) (h1 : Rd w B 1 A1 l1.length (ints l1)) (h2 : Rd w B' 1 A2 l2.length (ints l2)) (hn : l1.length ≤ 1000000000) :
 Calls Tryz.prog 91 #[.slice A1 l1.length c1, .slice A2 l2.length c2] w fun e w' => e = .returned (.bool b) ∧ ∃ q, w' = w.drewN q := by subst hb; exact equal_any A1 A2 c1 c2 l1 l2 w h1 h2 hn
theorem ChkAt.kb {w w' : World} {S : Nat → Prop} {gc gv : Nat} {p : Prg} {vs : List Vs} {f : Fn} {Ac Am An Ab As : Option Addr} {cc cm cn cb cs : Nat} {bv qv tv lv dv : Value} (h : ChkAt w S gc gv p vs f Ac cc Am cm An cn Ab cb As cs bv qv tv lv dv) (hk : KB (fun b => S b ∨ b = gv ∨ b = gc) w w') (hz : w.heap.size ≤ w'.heap.size) : ChkAt w' S gc gv p vs f Ac cc Am cm An cn Ab cb As cs bv qv tv lv dv := by
 have hk' : Kept S w w' := (hk.sub (fun b hb => .inl hb)).kept
 exact ⟨h.blk.kb hk (.inr (.inr rfl)), h.prg.keep hk', h.fn.keep hk', h.inf.kb (hk.sub (fun b hb => hb.elim .inl (fun h => .inr (.inl h)))) hz, fun b hs => ⟨Nat.lt_of_lt_of_le (h.lt b hs).1 hz, (h.lt b hs).2⟩, ⟨Nat.lt_of_lt_of_le h.gv.1 hz, h.gv.2⟩, h.cap⟩
/-- The tree is put. -/
theorem ChkAt.tree {w : World} {S : Nat → Prop} {gc gv : Nat} {p : Prg} {vs : List Vs} {f : Fn} {Ac Am An Ab As : Option Addr} {cc cm cn cb cs : Nat} {bv qv tv lv dv : Value} (h : ChkAt w S gc gv p vs f Ac cc Am cm An cn Ab cb As cs bv qv tv lv dv) (v : Value) : ChkAt (w.setCell ⟨gc, 10, none⟩ v) S gc gv p vs f Ac cc Am cm An cn Ab cb As cs bv qv v lv dv := by
 have hk : KB (fun b => S b ∨ b = gv) w (w.setCell ⟨gc, 10, none⟩ v) := (KB.refl _ w).set (by
  show ¬ (S gc ∨ gc = gv)
  rintro (hs | e)
  · exact (h.lt gc hs).2.1 rfl
  · exact h.gv.2 e.symm) v
 have hk' : Kept S w (w.setCell ⟨gc, 10, none⟩ v) := (hk.sub (fun b hb => .inl hb)).kept
 have b := h.blk.set_ 10 v
 simp only [List.setIfInBounds_toArray, List.set_cons_zero, List.set_cons_succ] at b
 exact ⟨b, h.prg.keep hk', h.fn.keep hk', h.inf.kb hk (by simp), fun b hs => ⟨by simpa using (h.lt b hs).1, (h.lt b hs).2⟩, ⟨by simpa using h.gv.1, h.gv.2⟩, h.cap⟩
theorem TreeAt.kb {w w' : World} {gt gi gd n : Nat} {idm dep : List Int} {S : Nat → Prop} (h : TreeAt w gt gi gd n idm dep) (hk : KB S w w') (h1 : S gt) (h2 : S gi) (h3 : S gd) : TreeAt w' gt gi gd n idm dep :=
 ⟨(World.cell?_of_block (hk gt h1)).trans h.t1, (World.cell?_of_block (hk gt h1)).trans h.t2, h.bi.kb hk h2, h.bd.kb hk h3⟩
theorem TreeAt.drewN {w : World} {gt gi gd n : Nat} {idm dep : List Int} (h : TreeAt w gt gi gd n idm dep) (q : Nat) : TreeAt (w.drewN q) gt gi gd n idm dep := ⟨h.t1, h.t2, h.bi, h.bd⟩
theorem dm0 {E : Nat → Nat → Prop} {k : Nat} (h : Reach E k) : Dm E 0 k := by
 refine ⟨h, fun a => ?_⟩
 clear h
 induction a with
 | zero h => exact h rfl
 | step _ _ _ ih => exact ih
theorem above_zero {E : Nat → Nat → Prop} {n k : Nat} (hk : k < n) : aboveB E n 0 k = true ↔ Reach E k := by
 constructor
 · intro h
   have := (dec_p h).2.1.2.2
   simpa using this
 · intro h
   exact dec_t ⟨⟨by omega, by omega, .zero⟩, ⟨by omega, by omega, by simpa using h⟩, by simpa using dm0 h⟩
theorem own_rd {w : World} {base : Nat} {e : TypeId} {size n c : Nat} {A : Option Addr} {xs : List Value} (h : w.ownsRow base e size (.slice A n c) n xs) : Rd w w.heap.size size A n xs := by
 obtain ⟨A', c', hv, hr⟩ := Rd.of_own h
 cases hv
 exact hr
/-- What stands once the blocks may be. -/
structure BlocksR (w w' : World) (S : Nat → Prop) (gc gv : Nat) (p : Prg) (vs : List Vs) (f : Fn) (lv dv : Value) (gb gp gt gi gd : Nat) (blk plc idm dep : List Int) : Prop where
 chk : Chk w' S gc gv p vs f (.slice (some ⟨gb, 0, none⟩) f.nodes.length f.nodes.length) (.slice (some ⟨gp, 0, none⟩) f.nodes.length f.nodes.length) (.pointer (some ⟨gt, 0, none⟩)) lv dv
 bb : Blk w' gb 3 ⟨ints blk⟩
 bp : Blk w' gp 3 ⟨ints plc⟩
 tree : TreeAt w' gt gi gd f.blocks.length idm dep
 ok : TreeOk (EI (grF f)) f.blocks.length idm dep
 new : w.heap.size ≤ gb ∧ w.heap.size ≤ gp ∧ w.heap.size ≤ gt ∧ w.heap.size ≤ gi ∧ w.heap.size ≤ gd
def BlocksPost (w : World) (S : Nat → Prop) (gc gv : Nat) (p : Prg) (vs : List Vs) (f : Fn) (lv dv : Value) (e : Ending) (w' : World) : Prop :=
 w.grownBy w' (some gc) ∧ ((e = .returned (.bool false) ∧ ¬ (standOk f ∧ BlocksOk f)) ∨ (e = .returned (.bool true) ∧ BlocksOk f ∧ ∃ gb gp gt gi gd blk plc idm dep, Stands f blk plc ∧ BlocksR w w' S gc gv p vs f lv dv gb gp gt gi gd blk plc idm dep))
/-- The rows of those that go on at each block, block B's first i edges among them. -/
def pdsL (f : Fn) (B i : Nat) : List (List Int) := (List.range f.blocks.length).map (pdsAt f B i)
section
variable {f : Fn} {B i s : Nat}
theorem pdsL_len : (pdsL f B i).length = f.blocks.length := by simp [pdsL]
theorem pdsL_get (hs : s < f.blocks.length) : (pdsL f B i)[s]? = some (pdsAt f B i s) := by simp [pdsL, hs]
theorem pdsL_zero : pdsL f 0 0 = List.replicate f.blocks.length [] := by
 apply List.ext_getElem?
 intro k
 by_cases hk : k < f.blocks.length
 · rw [pdsL_get hk, pdsAt_zero, pdsTo_zero]; simp [hk]
 · rw [List.getElem?_eq_none (by rw [pdsL_len]; omega), List.getElem?_eq_none (by simp; omega)]
theorem pdsL_row (hi : (bkAt f B).succ.length ≤ i) : pdsL f B i = pdsL f (B + 1) 0 := by
 unfold pdsL
 refine List.map_congr_left fun s _ => ?_
 rw [pdsAt_zero, pdsTo_next]
 unfold pdsAt
 rw [List.take_of_length_le hi, List.take_length]
theorem pdsL_step {k : Int} (hk : (bkAt f B).succ[i]? = some k) (h0 : 0 ≤ k) (h1 : k < f.blocks.length) (hn : k ∉ (bkAt f B).succ.take i) : pdsL f B (i + 1) = (pdsL f B i).set k.toNat (pdsAt f B i k.toNat ++ [(B : Int)]) := by
 apply List.ext_getElem?
 intro j
 by_cases hj : j < f.blocks.length
 · by_cases e : k.toNat = j
   · subst e
     rw [List.getElem?_set_self (by rw [pdsL_len]; exact hj), pdsL_get hj, pdsAt_same hk (by omega) hn]
   · rw [List.getElem?_set_ne e, pdsL_get hj, pdsL_get hj, pdsAt_other hk (by omega)]
 · rw [List.getElem?_eq_none (by rw [pdsL_len]; omega), List.getElem?_eq_none (by rw [List.length_set, pdsL_len]; omega)]
theorem pdsAt_len : (pdsAt f B i s).length ≤ B + 1 := by
 unfold pdsAt
 rw [List.length_append]
 have h1 : (pdsTo f B s).length ≤ B := by
  unfold pdsTo
  have := List.length_filter_le (fun b => decide ((s : Int) ∈ (bkAt f b).succ)) (List.range B)
  simpa using this
 split
 · simpa using h1
 · simpa using Nat.le_succ_of_le h1
end
/-- The state of the loops of blocks. -/
structure BlkSt (w w1 wr : World) (gc gq : Nat) (hs : List (Option Addr × Nat)) (ls : List (List Int)) : Prop where
 q : Blk wr gq 47 ⟨hdrs hs ls⟩
 m : OwnMat wr (gq + 1) 3 hs ls
 k : KB (fun x => x < gq) w1 wr
 z : gq + 1 ≤ wr.heap.size
 g : w.grownBy wr (some gc)
theorem grown_more {w w1 w2 : World} {row row2 : Option Nat} (h : w.grownBy w1 row) (h2 : w1.grownBy w2 row2) (hr : ∀ x, row2 = some x → w.heap.size ≤ x) : w.grownBy w2 row :=
 ⟨h2.os.trans h.os, h2.tape.trans h.tape, h2.output.trans h.output, Nat.le_trans h.size h2.size, fun k hk hne => (h2.block k (Nat.lt_of_lt_of_le hk h.size) (fun e => by have := hr k e.symm; omega)).trans (h.block k hk hne)⟩
section
variable {w w1 wr w3 : World} {gc gq : Nat} {hs : List (Option Addr × Nat)} {ls : List (List Int)}
theorem BlkSt.alloc (h : BlkSt w w1 wr gc gq hs ls) (o : Obj) : BlkSt w w1 (wr.alloc o) gc gq hs ls :=
 ⟨h.q.alloc o, h.m.alloc o, h.k.alloc (fun x hx => by have := h.z; omega) o, by have := h.z; simp; omega, h.g.trans (World.grownBy_alloc wr o (some gc))⟩
theorem BlkSt.drewN (h : BlkSt w w1 wr gc gq hs ls) (n : Nat) : BlkSt w w1 (wr.drewN n) gc gq hs ls :=
 ⟨h.q, h.m.below (below_drewN (Below.refl _ _) n) (Nat.le_refl _), h.k, h.z, grownN h.g n⟩
/-- What lies ahead of these rows is as it was. -/
theorem BlkSt.kept {wa wb : World} {hs' : List (Option Addr × Nat)} {ls' : List (List Int)} {S : Nat → Prop} (h1 : BlkSt w w1 wa gc gq hs ls) (h2 : BlkSt w w1 wb gc gq hs' ls') (hS : ∀ b, S b → b < gq) : Kept S wa wb := fun p hp => World.cell?_of_block ((h2.k p.block (hS _ hp)).trans (h1.k p.block (hS _ hp)).symm)
/-- A row has grown by one, and its header is put. -/
theorem BlkSt.put (h : BlkSt w w1 wr gc gq hs ls) {k : Nat} {A A' : Option Addr} {c c' n : Nat} {l l' : List Int} {xs : List Value} (hk : hs[k]? = some (A, c)) (hl : ls[k]? = some l) (hown : w3.ownsRow (gq + 1) 3 1 (.slice A' n c') n xs) (hn : n = l'.length) (hx : xs = ints l')
 (hg3 : wr.grownBy w3 (Value.slice A l.length c).ownBlock) (hat : (Value.slice A' n c').ownBlock = (Value.slice A l.length c).ownBlock ∨ (Value.slice A' n c').ownBlock = some wr.heap.size) (hwq : w.heap.size ≤ gq) :
 BlkSt w w1 (w3.setCell ⟨gq, k, none⟩ (.slice A' n c')) gc gq (hs.set k (A', c')) (ls.set k l') ∧ Blk w3 gq 47 ⟨hdrs hs ls⟩ := by
 have hkl : k < ls.length := (List.getElem?_eq_some_iff.1 hl).1
 have hold := h.m.own k _ _ hk hl
 have hne : ∀ x, (Value.slice A l.length c).ownBlock = some x → gq < x := fun x hx => by
  have := (hold.lt x (by rw [hdr_block]; cases A <;> first | exact hx | simp [Value.ownBlock] at hx)).1
  omega
 have q3 := h.q.grown hg3 (fun e => by have := hne gq e.symm; omega)
 have m3 := h.m.grown hk hkl hown hn hx hg3 hat
 have z3 := hg3.size
 have z := h.z
 refine ⟨⟨?_, ?_, ?_, ?_, ?_⟩, q3⟩
 · subst hn
   exact hdrs_blk_put q3 k A' c' rfl
 · exact m3.far (grown_setCell _ _ _) (by show gq < gq + 1; omega)
 · exact (h.k.grown hg3 (fun b hb => by omega) (fun b hb e => by have := hne b e.symm; omega)).set (by show ¬ gq < gq; omega) _
 · simp; omega
 · exact grown_new (grown_more h.g hg3 (fun x hx => by have := hne x hx; omega)) (p := ⟨gq, k, none⟩) hwq _
end
end Go.Proofs.YtjjmpfmhggcjiaaGreatDoor
