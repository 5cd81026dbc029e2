/-
 Vr2, Vr3, Vr4, Vr5.
-/
import Derived.WalkSpells
import Derived.Laws.LoneSync
import Derived.Test.YtjjmpfmhggcjiaaGreatDoorJWr1
import Derived.Test.YtjjmpfmhggcjiaaGreatDoorJVr1
set_option linter.unusedSimpArgs false
set_option linter.unusedVariables false
namespace Go.Proofs.YtjjmpfmhggcjiaaGreatDoor
open Go.RowKit Go.Maps
/-- A copy in new memory. -/
def ClonePost (w : World) (T : TypeId) (size n : Nat) (xs : List Value) (e : Ending) (w' : World) : Prop := ∃ A c, e = .returned (.slice A n c) ∧ w'.ownsRow w.heap.size T size (.slice A n c) n xs ∧ Below w.heap.size w w'
theorem info_cls : (Tryz.prog.info? 139).map (fun i => (i.zero, i.size, i.bytes)) = some (some (.agg #[.string ⟨#[]⟩]), 1, 16) := by kernel_rfl
set_option maxRecDepth 100000 in
set_option maxHeartbeats 1000000 in
theorem clone_cls (A : Option Addr) (n c : Nat) (xs : List Value) (w : World) (h : Rd w w.heap.size 1 A n xs) (h0 : A = none → n = 0) (hn : n ≤ 1000000) (h1 : ∀ u ∈ xs, u.oneCell' = true) :
 Calls Tryz.prog 68 #[.slice A n c] w (ClonePost w 139 1 n xs) := by
 have q : ∀ (w : World) (a : Option Addr) (n c n' c' : Nat), (binOp .eql 22 (.slice a n c) (.slice none n' c')).run Tryz.prog w = .ok (.bool a.isNone) w := fun w a n c n' c' => Lib.run_eql_slice_nil w _ _ a n c n' c' Tryz.underlying22
 cases A with
 | none =>
   obtain rfl := h0 rfl
   have hx : xs = [] := List.eq_nil_of_length_eq_zero (by simpa using h.1)
   go_enter Tryz.func68, Tryz.ntmps68
   go_wp2
   go_ret
   subst hx
   exact ⟨none, 0, rfl, World.ownsRow_nil _ _ _ _, Below.refl _ _⟩
 | some a =>
   obtain ⟨i0, hi, hz0, hz1, hz2⟩ := info_parts info_cls
   have hsp : 0 < n → a.spot = none := fun hn0 => by
    obtain ⟨b, off, e, _⟩ := h.2 hn0
    cases e; rfl
   have hc : ∀ j u, xs[j]? = some u → w.cell? (a.add j) = some u := fun j u hu => by
    by_cases hn0 : 0 < n
    · obtain ⟨b, off, e, _, hcc⟩ := h.2 hn0
      cases e
      have := hcc j u hu
      rwa [show (⟨b, off, none⟩ : Addr).add j = ⟨b, off + j, none⟩ from Go.WideShapes.add_plain b off j]
    · have : xs.length = 0 := by have := h.1; omega
      have := (List.getElem?_eq_some_iff.1 hu).1
      omega
   have Hc := Lib.hid hc
   have Hl := Lib.hid h.1
   have H1 := Lib.hid h1
   clear hc h h1 hsp h0
   go_enter Tryz.func68, Tryz.ntmps68
   go_wp2_with (at_builtin
                refine wpList_append_own_at _ rfl _ _ 22 rfl w.heap.size 139 i0 _ 1 16 Tryz.underlying22 hi hz0 hz1 hz2 rfl (by decide) _ 0 [] rfl (World.ownsRow_made w #[] 0 (Nat.le_refl _) (Nat.zero_le _) rfl) a n c xs rfl Hl.out (fun j u hu => by first | exact Hc.out j u hu | (rw [World.cell?_alloc_lt]; exact Hc.out j u hu; exact World.block_lt_of_cell? w _ (Hc.out j u hu))) H1.out (by unfold maxLen; omega) (by omega) (by simp) ?_
                intro v' w1 hown hg _ _
                simp only [Nat.zero_add, List.nil_append] at hown
                obtain ⟨A', c', rfl⟩ := own_slice hown)
   go_ret
   exact ⟨A', c', rfl, hown, ((Below.refl w.heap.size w).alloc (Nat.le_refl _) _).grown hg (by simp) (fun k hk => by
    have e : some w.heap.size = some k := hk
    cases e
    exact Nat.le_refl _)⟩
theorem info_ins : (Tryz.prog.info? 118).map (fun i => (i.zero, i.size, i.bytes)) = some (some (.agg #[.int .i64 0, .int .i64 0, .int .i64 0, .int .i64 0]), 4, 32) := by kernel_rfl
set_option maxRecDepth 100000 in
set_option maxHeartbeats 1000000 in
theorem clone_ins (A : Option Addr) (n c : Nat) (xs : List Value) (w : World) (h : Rd w w.heap.size 4 A n xs) (h0 : A = none → n = 0) (hn : n ≤ 1000000) (h1 : ∀ u ∈ xs, u.oneCell' = true) :
 Calls Tryz.prog 69 #[.slice A n c] w (ClonePost w 118 4 n xs) := by
 have q : ∀ (w : World) (a : Option Addr) (n c n' c' : Nat), (binOp .eql 88 (.slice a n c) (.slice none n' c')).run Tryz.prog w = .ok (.bool a.isNone) w := fun w a n c n' c' => Lib.run_eql_slice_nil w _ _ a n c n' c' Tryz.underlying88
 cases A with
 | none =>
   obtain rfl := h0 rfl
   have hx : xs = [] := List.eq_nil_of_length_eq_zero (by simpa using h.1)
   go_enter Tryz.func69, Tryz.ntmps69
   go_wp2
   go_ret
   subst hx
   exact ⟨none, 0, rfl, World.ownsRow_nil _ _ _ _, Below.refl _ _⟩
 | some a =>
   obtain ⟨i0, hi, hz0, hz1, hz2⟩ := info_parts info_ins
   have hsp : 0 < n → a.spot = none := fun hn0 => by
    obtain ⟨b, off, e, _⟩ := h.2 hn0
    cases e; rfl
   have hc : ∀ j u, xs[j]? = some u → w.cell? (a.add j) = some u := fun j u hu => by
    by_cases hn0 : 0 < n
    · obtain ⟨b, off, e, _, hcc⟩ := h.2 hn0
      cases e
      have := hcc j u hu
      rwa [show (⟨b, off, none⟩ : Addr).add j = ⟨b, off + j, none⟩ from Go.WideShapes.add_plain b off j]
    · have : xs.length = 0 := by have := h.1; omega
      have := (List.getElem?_eq_some_iff.1 hu).1
      omega
   have Hc := Lib.hid hc
   have Hl := Lib.hid h.1
   have H1 := Lib.hid h1
   clear hc h h1 hsp h0
   go_enter Tryz.func69, Tryz.ntmps69
   go_wp2_with (at_builtin
                refine wpList_append_own_at _ rfl _ _ 88 rfl w.heap.size 118 i0 _ 4 32 Tryz.underlying88 hi hz0 hz1 hz2 rfl (by decide) _ 0 [] rfl (World.ownsRow_made w #[] 0 (Nat.le_refl _) (Nat.zero_le _) rfl) a n c xs rfl Hl.out (fun j u hu => by first | exact Hc.out j u hu | (rw [World.cell?_alloc_lt]; exact Hc.out j u hu; exact World.block_lt_of_cell? w _ (Hc.out j u hu))) H1.out (by unfold maxLen; omega) (by omega) (by simp) ?_
                intro v' w1 hown hg _ _
                simp only [Nat.zero_add, List.nil_append] at hown
                obtain ⟨A', c', rfl⟩ := own_slice hown)
   go_ret
   exact ⟨A', c', rfl, hown, ((Below.refl w.heap.size w).alloc (Nat.le_refl _) _).grown hg (by simp) (fun k hk => by
    have e : some w.heap.size = some k := hk
    cases e
    exact Nat.le_refl _)⟩
end Go.Proofs.YtjjmpfmhggcjiaaGreatDoor
namespace Go.Proofs.YtjjmpfmhggcjiaaGreatDoor
open Go.RowKit Go.Maps
def mthShape : Shape Mth where
 size := 4
 H := Option Addr × Nat
 cell m h := mcell (m, h)
 len _ _ := rfl
 inner S w m h := RdS w S 4 h.1 m.code.length (icells m.code)
 keep h hk := h.keep hk
 more h hs := h.more hs
/-- A program whose rows lie in a set of blocks. -/
structure RdPS (w : World) (S : Nat → Prop) (Ac Am : Option Addr) (p : Prg) : Prop where
 cl : RdS w S 1 Ac p.classes.length (p.classes.map Value.string)
 ms : RdL mthShape w S Am p.methods
theorem RdPS.rd {w : World} {S : Nat → Prop} {B : Nat} {Ac Am : Option Addr} {p : Prg} (h : RdPS w S Ac Am p) (hs : ∀ b, S b → b < B) : RdP w B Ac Am p := by
 refine ⟨h.cl.rd hs, ?_⟩
 obtain ⟨hl, h1, h2, h3⟩ := h.ms
 exact ⟨hl, h1, h2.rd hs, fun k m x e1 e2 => (h3 k m x e1 e2).rd hs⟩
theorem RdPS.keep {w w' : World} {S : Nat → Prop} {Ac Am : Option Addr} {p : Prg} (h : RdPS w S Ac Am p) (hk : Kept S w w') : RdPS w' S Ac Am p := ⟨h.cl.keep hk, h.ms.keep hk⟩
theorem RdPS.more {w : World} {S S' : Nat → Prop} {Ac Am : Option Addr} {p : Prg} (h : RdPS w S Ac Am p) (hs : ∀ b, S b → S' b) : RdPS w S' Ac Am p := ⟨h.cl.more hs, h.ms.more hs⟩
def CopyPost (w : World) (p : Prg) (e : Ending) (w' : World) : Prop := ∃ Ac cc Am cm, e = .returned (pv Ac cc Am cm p) ∧ RdPS w' (fun b => w.heap.size ≤ b ∧ b < w'.heap.size) Ac Am p ∧ Below w.heap.size w w'
theorem rds_own {w : World} {base : Nat} {e : TypeId} {size n c : Nat} {A : Option Addr} {xs : List Value} (h : w.ownsRow base e size (.slice A n c) n xs) {S : Nat → Prop} (hS : ∀ g, A = some ⟨g, 0, none⟩ → base ≤ g → g < w.heap.size → S g) : RdS w S size A n xs := by
 refine ⟨h.1, fun hn => ?_⟩
 rcases h.2 with ⟨hv, hn0⟩ | ⟨g, cap, cur, hv, hb, hh, _⟩
 · omega
 · cases hv
   refine ⟨g, 0, rfl, hS g rfl hb (Array.getElem?_eq_some_iff.1 hh).1, fun j u hu => ?_⟩
   have := h.cells (g := g) rfl j u hu
   rwa [Go.WideShapes.add_plain] at this
theorem rd_none {w : World} {B size n : Nat} {A : Option Addr} {xs : List Value} (h : Rd w B size A n xs) : A = none → n = 0 := fun e => by
 by_cases hn : 0 < n
 · obtain ⟨b, off, e', _⟩ := h.2 hn
   rw [e] at e'; cases e'
 · omega
/-- What the copied methods are, k of them. -/
structure CpR (wr : World) (base : Nat) (ms : List Mth) (k : Nat) (A : Option Addr) (c : Nat) : Prop where
 ex : ∃ hs : List (Option Addr × Nat), hs.length = k ∧ wr.ownsRow base 90 4 (.slice A k c) k (mthShape.cells (ms.take k) hs) ∧
  ∀ (j : Nat) m h, (ms.take k)[j]? = some m → hs[j]? = some h → RdS wr (fun b => base ≤ b ∧ b < wr.heap.size ∧ (Value.slice A k c).ownBlock ≠ some b) 4 h.1 m.code.length (icells m.code)
theorem kept_grown {w w' : World} {row : Option Nat} (h : w.grownBy w' row) {S : Nat → Prop} (hS : ∀ b, S b → b < w.heap.size ∧ some b ≠ row := by intro b h; exact ⟨h, by simp⟩) : Kept S w w' := fun p hp => World.cell?_of_block (h.block p.block (hS _ hp).1 (hS _ hp).2)
theorem cells_snoc {α : Type} (s : Shape α) {l : List α} {hs : List s.H} (h : hs.length = l.length) (a : α) (x : s.H) : s.cells (l ++ [a]) (hs ++ [x]) = s.cells l hs ++ s.cell a x := by
 unfold Shape.cells
 rw [List.zip_append h.symm]
 simp
theorem infoMth : (Tryz.prog.info? 90).map (fun i => (i.zero, i.size, i.bytes)) = some (some (.agg #[.string ⟨#[]⟩, .string ⟨#[]⟩, .string ⟨#[]⟩, .slice none 0 0]), 4, 72) := by kernel_rfl
set_option maxRecDepth 100000 in
set_option maxHeartbeats 4000000 in
theorem copied_any (Ac Am : Option Addr) (cc cm : Nat) (p : Prg) (w : World) (hr : RdP w w.heap.size Ac Am p) (hc : p.classes.length ≤ 1000) (hm : p.methods.length ≤ 1000) (hcode : ∀ k, k < p.methods.length → (p.methods.getD k default).code.length ≤ 1000) :
 Calls Tryz.prog 32 #[pv Ac cc Am cm p] w (CopyPost w p) := by
 have hcl := fun W (hW : Below w.heap.size w W) => clone_cls Ac p.classes.length cc (p.classes.map Value.string) W ((hr.cl.below hW (Nat.le_refl _)).more hW.size) (rd_none hr.cl) (by omega) (by intro u hu; obtain ⟨x, _, rfl⟩ := List.mem_map.1 hu; rfl)
 have Hcl := Lib.hid hcl
 have hw2 := ((Below.refl w.heap.size w).alloc (Nat.le_refl _) (.cells #[.slice Ac p.classes.length cc, .slice Am p.methods.length cm] 25)).alloc (by simp) (.cells #[.slice none 0 0, .slice none 0 0] 25)
 have b1 := (Blk.new w 25 #[.slice Ac p.classes.length cc, .slice Am p.methods.length cm]).alloc (.cells #[.slice none 0 0, .slice none 0 0] 25)
 have b2 := Blk.newAt (w := w.alloc (.cells #[.slice Ac p.classes.length cc, .slice Am p.methods.length cm] 25)) (g := w.heap.size + 1) (by simp) 25 #[.slice none 0 0, .slice none 0 0]
 clear hcl
 go_enter Tryz.func32, Tryz.ntmps32
 go_wp2_with fail
 refine (Hcl.out _ hw2).mono ?_
 rintro e w1 ⟨A1, c1, rfl, own1, hb1⟩
 have hw1 := hw2.trans (hb1.mono hw2.size)
 have d1 := b1.below hb1 b1.lt
 have d2 := b2.below hb1 b2.lt
 have y1 := d1.at1
 have l1 := d1.lt
 have e1 := d1
 go_wp2
 have d3 := Blk.new w1 25 #[.slice A1 p.classes.length c1, .slice none 0 0]
 have d1' := d1.alloc (.cells #[.slice A1 p.classes.length c1, .slice none 0 0] 25)
 have d2' := d2.alloc (.cells #[.slice A1 p.classes.length c1, .slice none 0 0] 25)
 have hw3 := hw1.alloc hw1.size (.cells #[.slice A1 p.classes.length c1, .slice none 0 0] 25)
 have hz1 : w.heap.size + 2 ≤ w1.heap.size := by have := hb1.size; simp at this; omega
 have own1' := own1.alloc (.cells #[.slice A1 p.classes.length c1, .slice none 0 0] 25)
 have hlt1 := fun g (e : A1 = some ⟨g, 0, none⟩) => own1.lt g (by rw [e]; rfl)
 have Hlt1 := Lib.hid hlt1
 have HA1 := Lib.hid (rds_own own1 (S := fun b => w.heap.size + 2 ≤ b ∧ b < w1.heap.size) (fun g e h1 h2 => ⟨by have := own1.lt g (by rw [e]; rfl); simp at this; omega, h2⟩))
 clear own1 own1' d1 d2 b1 b2 hb1 hw2 hw1 y1 l1 hlt1 e1
 have r0 : CpR (w1.alloc (.cells #[.slice A1 p.classes.length c1, .slice none 0 0] 25)) (w1.heap.size + 1) p.methods 0 none 0 := ⟨[], rfl, World.ownsRow_nil _ _ _ _, fun j m h e => by simp at e⟩
 have K0 : Kept (fun b => b < w1.heap.size) w1 (w1.alloc (.cells #[.slice A1 p.classes.length c1, .slice none 0 0] 25)) := (Kept.refl _ _).alloc (fun b h => h) _
 generalize w1.alloc (.cells #[.slice A1 p.classes.length c1, .slice none 0 0] 25) = w3 at *
 have Hm := Lib.hid hr.ms
 have Hcode := Lib.hid hcode
 go_loopw [13] (fun iv wr => ∃ (k : Nat) (A : Option Addr) (c : Nat), k ≤ p.methods.length ∧ iv = .int .i64 k ∧ CpR wr (w1.heap.size + 1) p.methods k A c ∧ Blk wr w1.heap.size 25 #[.slice A1 p.classes.length c1, .slice A k c] ∧ Hid (Kept (fun b => b < w1.heap.size) w1 wr) ∧ Blk wr (w.heap.size + 1) 25 #[.slice none 0 0, .slice none 0 0] ∧ w1.heap.size < wr.heap.size ∧ Below w.heap.size w wr) (fun iv _ => p.methods.length - (intOf iv).toNat)
 case atStart => exact ⟨0, none, 0, Nat.zero_le _, rfl, r0, d3, Lib.hid K0, d2', d3.lt, hw3⟩
 case round =>
  clear r0 d3 K0 d2' hw3 d1'
  obtain ⟨k, A, c, hk, rfl, R, d3, K, d2, hz, hb⟩ := hrel
  by_cases hlt : k < p.methods.length
  · obtain ⟨b, off, Ai, ci, hA, hbb, m0, m1, m2, m3, hcd⟩ := mth_at (Hm.out.below hb (Nat.le_refl _)) hlt
    have hcl := Hcode.out k hlt
    have Hget := Lib.hid (show (p.methods.take (k + 1)) = p.methods.take k ++ [p.methods.getD k default] by rw [List.take_succ_eq_append_getElem hlt]; simp [hlt])
    generalize p.methods.getD k default = mm at *
    subst hA
    have k0 : (0 : Int) ≤ k := by omega
    have k1 : (k : Int) < p.methods.length := by omega
    have hcd' := hcd
    obtain ⟨hs, hl, own, inn⟩ := R.ex
    have olt := own.lt
    have Olt := Lib.hid olt
    have Inn := Lib.hid inn
    have Hl := Lib.hid hl
    clear R inn olt hl
    have Hone := Lib.hid (show ∀ u ∈ icells mm.code, u.oneCell' = true from fun u hu => by
     obtain ⟨x, _, hx⟩ := List.mem_flatMap.1 hu
     simp [icell] at hx
     rcases hx with rfl | rfl | rfl | rfl <;> rfl)
    go_upto_region 5 with (fail)
    have b5 := Blk.new wr 90 #[.string mm.pa, .string mm.lo, .string mm.re, .slice Ai mm.code.length ci]
    have hcd4 := (hcd.alloc (by have := hb.size; omega) (.cells #[.string mm.pa, .string mm.lo, .string mm.re, .slice Ai mm.code.length ci] 90)).more (B' := (wr.alloc (.cells #[.string mm.pa, .string mm.lo, .string mm.re, .slice Ai mm.code.length ci] 90)).heap.size) (by have := hb.size; simp; omega)
    have Hzz := Lib.hid (show (wr.alloc (.cells #[.string mm.pa, .string mm.lo, .string mm.re, .slice Ai mm.code.length ci] 90)).heap.size = wr.heap.size + 1 by simp)
    have hg4 := World.grownBy_alloc wr (.cells #[.string mm.pa, .string mm.lo, .string mm.re, .slice Ai mm.code.length ci] 90) none
    have own4 := own.alloc (.cells #[.string mm.pa, .string mm.lo, .string mm.re, .slice Ai mm.code.length ci] 90)
    have d34 := d3.alloc (.cells #[.string mm.pa, .string mm.lo, .string mm.re, .slice Ai mm.code.length ci] 90)
    have d24 := d2.alloc (.cells #[.string mm.pa, .string mm.lo, .string mm.re, .slice Ai mm.code.length ci] 90)
    have hb4 := hb.alloc hb.size (.cells #[.string mm.pa, .string mm.lo, .string mm.re, .slice Ai mm.code.length ci] 90)
    clear m0 m1 m2 m3 hcd hcd'
    generalize wr.alloc (.cells #[.string mm.pa, .string mm.lo, .string mm.re, .slice Ai mm.code.length ci] 90) = w4 at *
    have y3 := b5.at3
    have l5 := b5.lt
    go_wp2_with fail
    refine (clone_ins Ai mm.code.length ci (icells mm.code) w4 hcd4 (rd_none hcd4) (by omega) Hone.out).mono ?_
    rintro e w5 ⟨A2, c2, rfl, own2, hb5⟩
    have b6 := b5.below hb5 b5.lt
    have y3' := b6.at3
    have f3 := b6.frozen 3
    have l6 := b6.lt
    clear y3 l5 b5 hcd4
    go_upto_region 6 with (fail)
    have b7 : Blk (w5.setCell ⟨wr.heap.size, 3, none⟩ (.slice A2 mm.code.length c2)) wr.heap.size 90 #[.string mm.pa, .string mm.lo, .string mm.re, .slice A2 mm.code.length c2] := by simpa using b6.set_ 3 (.slice A2 mm.code.length c2)
    have hgs := grown_setCell w5 ⟨wr.heap.size, 3, none⟩ (.slice A2 mm.code.length c2)
    have hz5 := hb5.size
    have hzz := Hzz.out
    have own5 := own_below own4 hb5 (Nat.le_refl _)
    have own6 := own_keep own5 hgs (.inl (fun e => by have := (Olt.out wr.heap.size e).2; omega))
    have own26 := own_keep own2 hgs (.inl (fun e => by have := (own2.lt wr.heap.size e).1; omega))
    have d36 := (d34.below hb5 d34.lt).far (p := ⟨wr.heap.size, 3, none⟩) (by show w1.heap.size ≠ wr.heap.size; omega) (.slice A2 mm.code.length c2)
    have d26 := (d24.below hb5 d24.lt).far (p := ⟨wr.heap.size, 3, none⟩) (by show w.heap.size + 1 ≠ wr.heap.size; omega) (.slice A2 mm.code.length c2)
    have hb6 := (hb4.trans (hb5.mono hb4.size)).setCell (p := ⟨wr.heap.size, 3, none⟩) (by show w.heap.size ≤ wr.heap.size; omega) (.slice A2 mm.code.length c2)
    have K6 : Kept (fun b => b < wr.heap.size) wr (w5.setCell ⟨wr.heap.size, 3, none⟩ (.slice A2 mm.code.length c2)) := Kept.set (Kept.grown (kept_grown hg4) (grown_of_below hb5 (Nat.le_refl _) none) (fun b h => by omega) (fun b h => by simp)) (by show ¬ wr.heap.size < wr.heap.size; omega) _
    have hz6 : wr.heap.size + 1 ≤ (w5.setCell ⟨wr.heap.size, 3, none⟩ (.slice A2 mm.code.length c2)).heap.size := by simp; omega
    have Hz6 := Lib.hid (show (w5.setCell ⟨wr.heap.size, 3, none⟩ (.slice A2 mm.code.length c2)).heap.size = w5.heap.size by simp)
    have Olt2 := Lib.hid own2.lt
    have hz56 : wr.heap.size + 1 ≤ w5.heap.size := by omega
    clear hzz
    clear y3' f3 l6 b6 own4 own5 own2 d34 d24 hb4 hgs own d3 d2 hg4
    go_upto_region 6 with (fail)
    generalize w5.setCell ⟨wr.heap.size, 3, none⟩ (.slice A2 mm.code.length c2) = w6 at *
    have q0 := b7.at0
    have q1 := b7.at1
    have q2 := b7.at2
    have q3 := b7.at3
    have l7 := b7.lt
    have x1 := d36.at1
    have lx := d36.lt
    go_wp2_with (at_builtin
                 refine wpList_append_row rfl (.tmp 22) (.tmp 24) 23 rfl (w1.heap.size + 1) 90 _ 4 72 Tryz.underlying23 infoMth rfl (by omega) A c k (mthShape.cells (p.methods.take k) hs) rfl (own6.alloc _) w6.heap.size 1 1 90 [.string mm.pa, .string mm.lo, .string mm.re, .slice A2 mm.code.length c2] rfl (Blk.new _ _ _) rfl (by intro u hu; simp at hu; rcases hu with rfl | rfl | rfl | rfl <;> rfl) (by unfold maxLen; omega) (by omega) (by simp; omega) ?_
                 intro A3 c3 w7 own7 hg7 hat7
                 have d37 := (d36.alloc (.cells #[.string mm.pa, .string mm.lo, .string mm.re, .slice A2 mm.code.length c2] 90)).grown hg7 (fun e => by have := (Olt.out w1.heap.size e.symm).1; omega)
                 have x3 := d37.at1
                 have fx3 := d37.frozen 1
                 have lx3 := d37.lt)
    go_roundw
    case rel =>
     have hlk : (p.methods.take k).length = k := by simp; omega
     have hgA := World.grownBy_alloc w6 (.cells #[.string mm.pa, .string mm.lo, .string mm.re, .slice A2 mm.code.length c2] 90) (Value.slice A k c).ownBlock
     have hg67 := hgA.trans hg7
     have hgS := grown_setCell w7 ⟨w1.heap.size, 1, none⟩ (.slice A3 (k + 1) c3)
     have hs67 := hg67.size
     have hs8 : (w7.setCell ⟨w1.heap.size, 1, none⟩ (.slice A3 (k + 1) c3)).heap.size = w7.heap.size := by simp
     have hsA : (w6.alloc (.cells #[.string mm.pa, .string mm.lo, .string mm.re, .slice A2 mm.code.length c2] 90)).heap.size = w6.heap.size + 1 := by simp
     have hs7 := hg7.size
     have hOwn : ∀ b, (Value.slice A3 (k + 1) c3).ownBlock = some b → b < wr.heap.size ∨ b = w6.heap.size + 1 := fun b e => by
      rcases hat7 with h | h
      · exact .inl (Olt.out b (by rw [← h]; exact e)).2
      · rw [h] at e
        right
        rw [← hsA]
        exact (Option.some.inj e).symm
     have hKr : ∀ (S : Nat → Prop), (∀ b, S b → w1.heap.size < b ∧ b < w6.heap.size ∧ (Value.slice A k c).ownBlock ≠ some b) → Kept S w6 (w7.setCell ⟨w1.heap.size, 1, none⟩ (.slice A3 (k + 1) c3)) := fun S hS =>
      Kept.set (Kept.grown (Kept.refl S w6) hg67 (fun b h => (hS b h).2.1) (fun b h e => (hS b h).2.2 e.symm)) (fun h => by have := (hS _ h).1; exact Nat.lt_irrefl _ this) _
     have hzz := Hzz.out
     have hz6e := Hz6.out
     refine ⟨k + 1, A3, c3, by omega, by go_num, ⟨hs ++ [(A2, c2)], by simp [Hl.out], ?_, ?_⟩, ?_, ?_, ?_, ?_, ?_⟩
     · rw [Hget.out]
       have hcs := cells_snoc mthShape (l := p.methods.take k) (hs := hs) (by rw [hlk]; exact Hl.out) mm (A2, c2)
       exact (congrArg (fun xs => World.ownsRow (w7.setCell ⟨w1.heap.size, 1, none⟩ (.slice A3 (k + 1) c3)) (w1.heap.size + 1) 90 4 (.slice A3 (k + 1) c3) (k + 1) xs) hcs).mpr (own_keep own7 hgS (.inl (blk_own_ne (Nat.lt_succ_self _) own7)))
     · intro j m h e1 e2
       rw [Hget.out] at e1
       by_cases hj : j < k
       · rw [List.getElem?_append_left (by omega)] at e1
         rw [List.getElem?_append_left (by rw [Hl.out]; exact hj)] at e2
         have r := Inn.out j m h e1 e2
         refine ((r.keep (K6.sub (fun b hb => hb.2.1))).keep (hKr _ (fun b hb => ⟨by omega, by omega, hb.2.2⟩))).more (fun b hb => ⟨hb.1, by omega, fun e => ?_⟩)
         rcases hat7 with h7 | h7
         · exact hb.2.2 (by rw [← h7]; exact e)
         · rw [h7] at e
           have := Option.some.inj e
           omega
       · have hjk : j = k := by
          have := (List.getElem?_eq_some_iff.1 e1).1
          simp [hlk] at this
          omega
         subst hjk
         rw [List.getElem?_append_right (by omega), hlk] at e1
         rw [List.getElem?_append_right (by rw [Hl.out]; omega), Hl.out] at e2
         simp at e1 e2
         subst e1 e2
         have r := rds_own own26 (S := fun b => w4.heap.size ≤ b ∧ b < w6.heap.size) (fun g _ h1 h2 => ⟨h1, h2⟩)
         refine (r.keep (hKr _ (fun b hb => ⟨by omega, hb.2, fun e => by have := (Olt.out b e).2; omega⟩))).more (fun b hb => ⟨by omega, by omega, fun e => ?_⟩)
         rcases hOwn b e with h | h <;> omega
     · have := d37.set_ 1 (.slice A3 (k + 1) c3)
       simpa using this
     · exact Lib.hid ((K.out.trans (K6.sub (fun b hb => by omega))).trans (Kept.set (Kept.grown (Kept.refl _ w6) hg67 (fun b h => by omega) (fun b h e => by have := (Olt.out b e.symm).1; omega)) (by show ¬ w1.heap.size < w1.heap.size; omega) _))
     · exact ((d26.alloc _).grown hg7 (fun e => by have := (Olt.out (w.heap.size + 1) e.symm).1; omega)).far (by show w.heap.size + 1 ≠ w1.heap.size; omega) _
     · omega
     · exact (hb6.grown hg67 hb6.size (fun j hj => by have := (Olt.out j hj).1; omega)).setCell (by show w.heap.size ≤ w1.heap.size; omega) _
    case measure => simp [intOf]; omega
  · have hke : k = p.methods.length := by omega
    have hge : ¬ (k : Int) < p.methods.length := by omega
    have x0 := d3.at0
    have x1 := d3.at1
    have z0 := d2.at0
    have z1 := d2.at1
    have fz0 := d2.frozen 0
    have fz1 := d2.frozen 1
    have lz := d2.lt
    have HK := Lib.hid hke
    clear hke hlt
    go_wp2
    have e2 : Blk ((wr.setCell ⟨w.heap.size + 1, 0, none⟩ (.slice A1 p.classes.length c1)).setCell ⟨w.heap.size + 1, 1, none⟩ (.slice A k c)) (w.heap.size + 1) 25 #[.slice A1 p.classes.length c1, .slice A k c] := by simpa using (d2.set_ 0 (.slice A1 p.classes.length c1)).set_ 1 (.slice A k c)
    have q0 := e2.at0
    have q1 := e2.at1
    refine bodyPost_ret (v := .agg #[.slice A1 p.classes.length c1, .slice A k c]) (by simp [results, Tryz.results32, go_sem, q0, q1]) rfl ?_
    have hKz : ∀ (S : Nat → Prop), (∀ b, S b → b ≠ w.heap.size + 1) → Kept S wr ((wr.setCell ⟨w.heap.size + 1, 0, none⟩ (.slice A1 p.classes.length c1)).setCell ⟨w.heap.size + 1, 1, none⟩ (.slice A k c)) := fun S hS => ((Kept.refl S wr).set (fun h => hS _ h rfl) _).set (fun h => hS _ h rfl) _
    have hs8 : ((wr.setCell ⟨w.heap.size + 1, 0, none⟩ (.slice A1 p.classes.length c1)).setCell ⟨w.heap.size + 1, 1, none⟩ (.slice A k c)).heap.size = wr.heap.size := by simp
    refine ⟨A1, c1, A, c, by rw [HK.out], ⟨?_, ?_⟩, ((hb.setCell (by show w.heap.size ≤ w.heap.size + 1; omega) _).setCell (by show w.heap.size ≤ w.heap.size + 1; omega) _)⟩
    · exact ((HA1.out.keep (K.out.sub (fun b h => h.2))).keep (hKz _ (fun b h => by omega))).more (fun b h => ⟨by omega, by omega⟩)
    · obtain ⟨hs, hl, own, inn⟩ := R.ex
      have ht : p.methods.take k = p.methods := by rw [HK.out, List.take_length]
      rw [ht] at own inn
      refine ⟨hs, hl.trans HK.out, ?_, fun j m h e1 e2 => ?_⟩
      · rw [← HK.out]
        exact ((rds_own own (S := fun b => w1.heap.size + 1 ≤ b ∧ b < wr.heap.size) (fun g _ h1 h2 => ⟨h1, h2⟩)).keep (hKz _ (fun b h => by omega))).more (fun b h => ⟨by omega, by omega⟩)
      · exact ((inn j m h e1 e2).keep (hKz _ (fun b h => by omega))).more (fun b h => ⟨by omega, by omega⟩)
end Go.Proofs.YtjjmpfmhggcjiaaGreatDoor
namespace Go.Proofs.YtjjmpfmhggcjiaaGreatDoor
open Go.RowKit Go.Maps
theorem bool_at {w : World} {B n : Nat} {A : Option Addr} {l : List Bool} (h : Rd w B 1 A n (l.map Value.bool)) {k : Nat} (hk : k < n) : ∃ b off, A = some ⟨b, off, none⟩ ∧ b < B ∧ w.cell? ⟨b, off + k, none⟩ = some (.bool (l.getD k false)) := by
 obtain ⟨b, off, e, hb, hc⟩ := h.2 (by omega)
 have hl : l.length = n := by have := h.1; simpa using this
 exact ⟨b, off, e, hb, hc k _ (by simp [show k < l.length by omega])⟩
/-- The stack ahead of an instruction, and whether it is reached. -/
def stkF (st : List ByteArray) (se : List Bool) (pc : Int) : ByteArray × Bool := if 0 ≤ pc ∧ pc < se.length ∧ se.getD pc.toNat false = true then (st.getD pc.toNat ⟨#[]⟩, true) else (⟨#[]⟩, false)
abbrev vm (As Ae : Option Addr) (cs ce : Nat) (st : List ByteArray) (se : List Bool) (most : Nat) : Value := .agg #[.slice As st.length cs, .slice Ae se.length ce, .int .i64 most]
theorem ret_sb {a a' : ByteArray} {b b' : Bool} (h1 : a = a') (h2 : b = b') : Ending.returned (.tuple #[.string a, .bool b]) = .returned (.tuple #[.string a', .bool b']) := by rw [h1, h2]
set_option maxRecDepth 100000 in
set_option maxHeartbeats 1000000 in
theorem vat_any (As Ae : Option Addr) (cs ce : Nat) (st : List ByteArray) (se : List Bool) (most : Nat) (pc : Int) (w : World) (h1 : Rd w w.heap.size 1 As st.length (st.map Value.string)) (h2 : Rd w w.heap.size 1 Ae se.length (se.map Value.bool)) (hl : st.length = se.length) :
 Calls Tryz.prog 130 #[vm As Ae cs ce st se most, .int .i64 pc] w fun e w' => e = .returned (.tuple #[.string (stkF st se pc).1, .bool (stkF st se pc).2]) ∧ Below w.heap.size w w' := by
 have hb := (Below.refl w.heap.size w).alloc (Nat.le_refl _) (.cells #[.slice As st.length cs, .slice Ae se.length ce, .int .i64 most] 94)
 by_cases p0 : pc < 0
 · have HF := Lib.hid (show stkF st se pc = (⟨#[]⟩, false) by unfold stkF; rw [if_neg (by omega)])
   have g1 : decide (pc < 0) = true := by simpa using p0
   clear p0 hl
   go_enter Tryz.func130, Tryz.ntmps130
   go_wp2
   go_ret2
   exact ⟨ret_sb (by rw [HF.out]) (by rw [HF.out]), hb⟩
 · have g1 : decide (pc < 0) = false := by simpa using p0
   by_cases p1 : (se.length : Int) ≤ pc
   · have HF := Lib.hid (show stkF st se pc = (⟨#[]⟩, false) by unfold stkF; rw [if_neg (by omega)])
     clear p0 hl
     go_enter Tryz.func130, Tryz.ntmps130
     go_wp2
     go_ret2
     exact ⟨ret_sb (by rw [HF.out]) (by rw [HF.out]), hb⟩
   · obtain ⟨k, rfl⟩ : ∃ k : Nat, pc = k := ⟨pc.toNat, by omega⟩
     have hk : k < se.length := by omega
     have hF : stkF st se k = if se.getD k false = true then (st.getD k ⟨#[]⟩, true) else (⟨#[]⟩, false) := by
      unfold stkF
      by_cases h : se.getD k false = true
      · rw [if_pos ⟨by omega, by omega, by simpa using h⟩, if_pos h]; simp
      · rw [if_neg (fun hh => h (by simpa using hh.2.2)), if_neg h]
     obtain ⟨b1, o1, rfl, hb1, x1⟩ := str_at h1 (show k < st.length by omega)
     obtain ⟨b2, o2, rfl, hb2, x2⟩ := bool_at h2 hk
     have k0 : (0 : Int) ≤ k := by omega
     have k1 : (k : Int) < se.length := by omega
     have k2 : (k : Int) < st.length := by omega
     have HF := Lib.hid hF
     generalize se.getD k false = s at *
     generalize st.getD k ⟨#[]⟩ = t at *
     clear hF p0 p1 hl hk
     cases s with
     | false =>
       go_enter Tryz.func130, Tryz.ntmps130
       go_wp2
       go_ret2
       exact ⟨ret_sb (by rw [HF.out]; rfl) (by rw [HF.out]; rfl), hb⟩
     | true =>
       go_enter Tryz.func130, Tryz.ntmps130
       go_wp2
       go_ret2
       exact ⟨ret_sb (by rw [HF.out]; rfl) (by rw [HF.out]; rfl), hb⟩
end Go.Proofs.YtjjmpfmhggcjiaaGreatDoor
namespace Go.Proofs.YtjjmpfmhggcjiaaGreatDoor
open Go.RowKit Go.Maps
theorem atomic_add (b off : Nat) (v : Int) (w : World) (h0 : w.cell? ⟨b, off, none⟩ = some (.int .i64 v)) (f0 : w.frozen? ⟨b, off, none⟩ = false) :
 Calls Tryz.prog 171 #[.pointer (some ⟨b, off, none⟩), .int .i64 1] w fun e w' => e = .returned (.int .i64 (IntKind.i64.wrap (v + 1))) ∧ w' = w.setCell ⟨b, off, none⟩ (.int .i64 (IntKind.i64.wrap (v + 1))) := by
 obtain ⟨r, hr⟩ : ∃ r, r = IntKind.i64.wrap (v + 1) := ⟨_, rfl⟩
 have hadd := run_call_add (P := Tryz.prog) Tryz.func206 (by kernel_rfl) (by kernel_rfl) (by kernel_rfl) .i64 (by kernel_rfl) (y := 1) (s := r) h0 f0 (by subst hr; rfl)
 rw [← hr]
 clear hr
 go_enter Tryz.func171, Tryz.ntmps171
 go_wp2
 go_ret
 exact ⟨rfl, rfl⟩
end Go.Proofs.YtjjmpfmhggcjiaaGreatDoor
