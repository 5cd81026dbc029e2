/-
 Flow3.
-/
import Derived.Sort.OwnSortedInts
import Derived.Test.YtjjmpfmhggcjiaaGreatDoorJFlow2
import Derived.Test.YtjjmpfmhggcjiaaGreatDoorJSettlePure
set_option linter.unusedSimpArgs false
set_option linter.unusedVariables false
namespace Go.Proofs.YtjjmpfmhggcjiaaGreatDoor
open Go.RowKit Go.Maps
theorem reverse_own {base n c : Nat} {A : Option Addr} {l : List Int} {w : World} (h : w.ownsRow base 3 1 (.slice A n c) n (ints l)) (hn : n ≤ 9223372036854775807) :
 Calls Tryz.prog 175 #[.slice A n c] w fun e w' => e = .returned (.tuple #[]) ∧ w'.ownsRow base 3 1 (.slice A n c) n (ints l.reverse) ∧ w.grownBy w' (Value.slice A n c).ownBlock := by
 have hl : l.length = n := by simpa [ints] using h.1
 by_cases h0 : n = 0
 · subst h0
   refine (Any.slices_Reverse_int_empty lays112 A c w).mono fun e w' ⟨he, hw⟩ => ?_
   subst hw
   have : l = [] := List.eq_nil_of_length_eq_zero hl
   subst this
   exact ⟨he, h, ⟨rfl, rfl, rfl, Nat.le_refl _, fun _ _ _ => rfl⟩⟩
 · have h' := h
   rcases h'.2 with ⟨hv, hn0⟩ | ⟨g, cap, cur, hv, hb, hh, h1, h2, h3, h4⟩
   · omega
   · cases hv
     subst hl
     have hH := holds_of_blockI (ss := l) hh (by rw [Nat.mul_one] at h4; exact h4)
     refine (Any.slices_Reverse_int lays112 g 0 c l w hH hn).mono fun e w' ⟨he, k, hw⟩ => ?_
     subst hw
     have e1 := ownsRow_sortedI (w := w) (n := k) (os := #[]) (ss := l) (ts := l.reverse) (by simp) hb hh h1 h2 h3
     have e2 := grownBy_sortedI (w := w) (g := g) (n := k) (os := #[]) l.reverse.toArray
     rw [Sort.grow_empty] at e1 e2
     exact ⟨he, e1, e2⟩
theorem nodup_rev : ∀ l : List Nat, l.Nodup → l.reverse.Nodup
 | [], _ => by simp
 | x :: l, h => by
   obtain ⟨h1, h2⟩ := List.nodup_cons.1 h
   rw [List.reverse_cons, List.nodup_append]
   exact ⟨nodup_rev l h2, by simp, fun a ha b hb e => by
    simp at ha hb
    subst hb e
    exact h1 ha⟩
/-- An order of what can be reached, and the rest. -/
def OrderPost3 (w : World) (g : List (List Int)) (e : Ending) (w' : World) : Prop :=
 ∃ A c l, e = .returned (.slice A l.length c) ∧ w'.ownsRow w.heap.size 3 1 (.slice A l.length c) l.length (ints (nats l)) ∧ Below w.heap.size w w' ∧ (g.length = 0 → l = []) ∧ l.length ≤ g.length ∧ (0 < g.length → (∃ r, l = 0 :: r) ∧ l.Nodup ∧ ∃ tp, Ordd (EI g) l (fun k => l.idxOf k) tp)
theorem ordd_congr {E E' : Nat → Nat → Prop} {l : List Nat} {pos tp : Nat → Nat} (h : ∀ p k, E p k ↔ E' p k) (O : Ordd E l pos tp) : Ordd E' l pos tp := by
 have e : E = E' := by funext p k; exact propext (h p k)
 subst e
 exact O
set_option maxRecDepth 100000 in
set_option maxHeartbeats 1000000 in
theorem order_any (A : Option Addr) (c : Nat) (g : List (List Int)) (w : World) (hr : RdL rowShape w (· < w.heap.size) A g) (hn : g.length ≤ 100000) (hrow : ∀ i, i < g.length → (g.getD i []).length ≤ 100000000) :
 Calls Tryz.prog 134 #[.slice A g.length c] w (OrderPost3 w g) := by
 have hPP : ∀ A2 c2 (s : Dfs) w', (0 < g.length → DfsInv (cleanF g) s ∧ s.stack = []) → (g.length = 0 → s.post = []) → w'.ownsRow w.heap.size 3 1 (.slice A2 s.post.length c2) s.post.length (ints (nats s.post).reverse) → Below w.heap.size w w' → OrderPost3 w g (.returned (.slice A2 s.post.length c2)) w' := fun A2 c2 s w' h1 h2 h3 h4 => by
  have e1 : (nats s.post).reverse = nats s.post.reverse := by simp [nats]
  rw [e1] at h3
  refine ⟨A2, c2, s.post.reverse, by simp, by simpa using h3, h4, fun h => by simp [h2 h], ?_, fun h => ?_⟩
  · by_cases h0 : g.length = 0
    · simp [h2 h0]
    · have := (h1 (by omega)).1.post_le
      rw [cleanF_len] at this
      simpa using this
  · obtain ⟨I, hs⟩ := h1 h
    obtain ⟨r1, r2, tp, r3⟩ := I.ordd hs
    exact ⟨r1, nodup_rev _ r2, tp, ordd_congr (fun p k => eg_clean p k) r3⟩
 have HP := Lib.hid hPP
 clear hPP
 generalize OrderPost3 w g = Post at *
 have Hw := Lib.hid (walk_any A c g w hr hn hrow)
 have hle : ∀ s : Dfs, (0 < g.length → DfsInv (cleanF g) s ∧ s.stack = []) → (g.length = 0 → s.post = []) → s.post.length ≤ 100000 := fun s h1 h2 => by
  by_cases h0 : g.length = 0
  · simp [h2 h0]
  · have := (h1 (by omega)).1.post_le
    rw [cleanF_len] at this
    omega
 have Hle := Lib.hid hle
 clear hle hrow hr
 go_enter Tryz.func134, Tryz.ntmps134
 go_wp2_with fail
 refine (Hw.out).mono ?_
 rintro e w1 ⟨G, A2, c2, A3, n3, c3, s, rfl, h1, h2, bG, own, hb⟩
 have hl := Hle.out s h1 h2
 have H1 := Lib.hid h1
 have H2 := Lib.hid h2
 clear h1 h2 Hw
 go_wp2_with fail
 refine (reverse_own own (by omega)).mono ?_
 rintro e w2 ⟨rfl, own2, hg⟩
 have hb2 := hb.grown hg hb.size (fun k hk => (own.lt k hk).1)
 go_wp2
 exact HP.out A2 c2 s _ H1.out H2.out own2 hb2
/-- Rows as they are when the walk through the edges has come to place i, edge j. -/
def predsAt (c : List (List Nat)) (i j : Nat) : List (List Nat) := (List.range c.length).map (predsTo c i j)
section
variable {c : List (List Nat)}
theorem predsAt_len (i j : Nat) : (predsAt c i j).length = c.length := by simp [predsAt]
theorem predsAt_get {i j k : Nat} (hk : k < c.length) : (predsAt c i j).getD k [] = predsTo c i j k := by simp [predsAt, hk]
theorem predsAt_zero : predsAt c 0 0 = List.replicate c.length [] := by
 unfold predsAt
 apply List.ext_getElem?
 intro k
 by_cases hk : k < c.length
 · simp [hk, predsTo]
 · rw [List.getElem?_eq_none (by simp; omega), List.getElem?_eq_none (by simp; omega)]
theorem predsAt_row {i j : Nat} (hj : (c.getD i []).length ≤ j) : predsAt c i j = predsAt c (i + 1) 0 := by
 unfold predsAt
 exact List.map_congr_left fun k _ => predsTo_row hj k
theorem predsAt_step {i j q : Nat} (hn : (c.getD i []).Nodup) (hq : (c.getD i [])[j]? = some q) (hql : q < c.length) : predsAt c i (j + 1) = (predsAt c i j).set q (predsTo c i j q ++ [i]) := by
 apply List.ext_getElem?
 intro k
 by_cases hk : k < c.length
 · by_cases e : q = k
   · subst e
     rw [List.getElem?_set_self (by rw [predsAt_len]; exact hk)]
     simp only [predsAt, List.getElem?_map, List.getElem?_range hk, Option.map_some]
     rw [predsTo_step hn hq, if_pos rfl]
   · rw [List.getElem?_set_ne e]
     simp only [predsAt, List.getElem?_map, List.getElem?_range hk, Option.map_some]
     rw [predsTo_step hn hq, if_neg (fun h => e h.symm)]
 · rw [List.getElem?_eq_none (by rw [predsAt_len]; omega), List.getElem?_eq_none (by simp [predsAt_len]; omega)]
theorem predsAt_fin : predsAt c c.length 0 = predsF c := by
 unfold predsAt predsF
 exact List.map_congr_left fun k _ => by simp [predsTo]
theorem predsTo_len (i j k : Nat) : (predsTo c i j k).length ≤ i + 1 := by
 unfold predsTo
 rw [List.length_append]
 have h1 : ((List.range i).filter (fun p => decide (k ∈ c.getD p []))).length ≤ i := by
  have := List.length_filter_le (fun p => decide (k ∈ c.getD p [])) (List.range i)
  simpa using this
 split
 · simpa using h1
 · simpa using Nat.le_succ_of_le h1
theorem mem_predsF {g : List (List Int)} {k p : Nat} (hk : k < g.length) : p ∈ (predsF (cleanF g)).getD k [] ↔ p < g.length ∧ EI g p k := by
 have hk' : k < (cleanF g).length := by rw [cleanF_len]; exact hk
 simp only [predsF, List.getD_eq_getElem?_getD, List.getElem?_map, List.getElem?_range hk', Option.map_some, Option.getD_some, List.mem_filter, List.mem_range, decide_eq_true_eq]
 rw [cleanF_len, ← eg_clean]
 unfold EG
 rw [List.getD_eq_getElem?_getD]
end
set_option maxRecDepth 100000 in
set_option maxHeartbeats 4000000 in
theorem preds_any (A : Option Addr) (c : Nat) (g : List (List Int)) (w : World) (hr : RdL rowShape w (· < w.heap.size) A g) (hn : g.length ≤ 100000) (hrow : ∀ i, i < g.length → (g.getD i []).length ≤ 100000000) :
 Calls Tryz.prog 133 #[.slice A g.length c] w (MatPost w ((predsF (cleanF g)).map nats)) := by
 have hcl := cleanF_len (g := g)
 have hPP : ∀ hs w', Blk w' w.heap.size 47 ⟨hdrs hs ((predsF (cleanF g)).map nats)⟩ → OwnMat w' (w.heap.size + 1) 3 hs ((predsF (cleanF g)).map nats) → Below w.heap.size w w' → MatPost w ((predsF (cleanF g)).map nats) (.returned (.slice (some ⟨w.heap.size, 0, none⟩) g.length g.length)) w' := fun hs w' h1 h2 h3 => ⟨_, hs, by simp [predsF, hcl], h1, h2, Nat.le_refl _, h3⟩
 have HP := Lib.hid hPP
 clear hPP
 generalize MatPost w ((predsF (cleanF g)).map nats) = Post at *
 have hm1 := fun W => run_make_row' (P := Tryz.prog) 50 47 (.slice none 0 0) 24 Tryz.underlying50 infoSl rfl .i64 .i64 g.length (by omega) (by omega) W
 rw [made_hdrs] at hm1
 have Hcl := Lib.hid (fun W hb => clean_any A c g W ((hr.below (B := w.heap.size) hb (fun _ h => h)).more (fun b h => Nat.lt_of_lt_of_le h hb.size)) hn hrow)
 have hcm : ∀ i k, k ∈ (cleanF g).getD i [] → k < g.length := fun i k hk => ((eg_clean i k).1 hk).1
 have hcn : ∀ i, ((cleanF g).getD i []).Nodup := fun i => by
  rw [cleanF_at]
  split
  · exact cleanRow_nodup _
  · exact List.nodup_nil
 have hcg : ∀ i, ((cleanF g).getD i []).length ≤ g.length := fun i => by
  rw [cleanF_at]
  split
  · exact cleanRow_len _
  · simp
 generalize cleanF g = cg at *
 have e0 : List.replicate g.length ([] : List Int) = (predsAt cg 0 0).map nats := by rw [predsAt_zero, hcl]; simp [nats]
 rw [e0] at hm1
 clear hrow hr e0
 have hw1 := (Below.refl w.heap.size w).alloc (Nat.le_refl _) (.cells ⟨hdrs (List.replicate g.length (none, 0)) ((predsAt cg 0 0).map nats)⟩ 47)
 have b1 := Blk.new w 47 ⟨hdrs (List.replicate g.length (none, 0)) ((predsAt cg 0 0).map nats)⟩
 have e1 : (predsAt cg 0 0).map nats = List.replicate g.length [] := by rw [predsAt_zero, hcl]; simp [nats]
 have hm0 := fun (W : World) b => OwnMat.made W b 3 g.length
 rw [← e1] at hm0
 have Hm0 := Lib.hid hm0
 clear e1 hm0
 generalize List.replicate g.length ((none : Option Addr), 0) = hs0 at *
 go_enter Tryz.func133, Tryz.ntmps133
 go_wp2_with fail
 refine (Hcl.out _ hw1).mono ?_
 rintro e w1 ⟨G, hs1, rfl, bG, mG, hG, hb1⟩
 have hml : (cg.map nats).length = g.length := by simpa using hcl
 rw [hml]
 have hG' : w.heap.size + 1 ≤ G := by simpa using hG
 have hmat := mG.rd bG (S := fun b => w.heap.size < b ∧ b < w1.heap.size) ⟨by omega, bG.lt⟩ (fun b h1 h2 => ⟨by omega, h2⟩)
 have b2 := b1.below hb1 b1.lt
 have hw2 := hw1.trans (hb1.mono hw1.size)
 have m0 := Hm0.out w1 w1.heap.size
 have hz2 : w.heap.size + 1 ≤ w1.heap.size := by have := hb1.size; simp at this; omega
 clear Hcl mG bG b1 hw1 hm1 hb1 Hm0 hG hG'
 go_wp2
 go_loopw [14] (fun iv wr => ∃ (i : Nat) (hs : List (Option Addr × Nat)), i ≤ g.length ∧ iv = .int .i64 i ∧ Blk wr w.heap.size 47 ⟨hdrs hs ((predsAt cg i 0).map nats)⟩ ∧ OwnMat wr w1.heap.size 3 hs ((predsAt cg i 0).map nats) ∧ Hid (Kept (fun b => w.heap.size < b ∧ b < w1.heap.size) w1 wr) ∧ w1.heap.size ≤ wr.heap.size ∧ Below w.heap.size w wr) (fun iv _ => g.length - (intOf iv).toNat)
 case atStart => exact ⟨0, hs0, Nat.zero_le _, rfl, b2, m0, Lib.hid (Kept.refl _ _), Nat.le_refl _, hw2⟩
 case round =>
  clear b2 m0 hw2
  obtain ⟨i, hs, hi, rfl, b1, m0, K, hz, hb⟩ := hrel
  by_cases hlt : i < g.length
  · have k0 : (0 : Int) ≤ i := by omega
    have k1 : (i : Int) < g.length := by omega
    obtain ⟨bm, offm, A1, c1, e5, hbm, x0', hrd⟩ := rd_row hmat (k := i) (by omega)
    injection e5 with e5
    injection e5 with e5 e6
    subst e5 e6
    have hli : (cg.map nats).getD i [] = nats (cg.getD i []) := by rw [List.getD_eq_getElem?_getD, map_nats_get cg (by omega)]; rfl
    rw [hli] at x0' hrd
    have x0 := (K.out ⟨G, 0 + i, none⟩ hbm).trans x0'
    rw [Nat.zero_add] at x0
    have hst := Lib.hid (fun j q (h1 : (cg.getD i [])[j]? = some q) h2 => predsAt_step (j := j) (hcn i) h1 h2)
    have hrw := Lib.hid (fun j (h : (cg.getD i []).length ≤ j) => predsAt_row h)
    have hmem := hcm i
    have hrl := hcg i
    have hnl : (nats (cg.getD i [])).length = (cg.getD i []).length := nats_len _
    rw [hnl] at x0
    clear x0' hli
    generalize cg.getD i [] = row at *
    go_wp2
    go_loopw [21] (fun jv w2 => ∃ (j : Nat) (hs : List (Option Addr × Nat)), j ≤ row.length ∧ jv = .int .i64 j ∧ Blk w2 w.heap.size 47 ⟨hdrs hs ((predsAt cg i j).map nats)⟩ ∧ OwnMat w2 w1.heap.size 3 hs ((predsAt cg i j).map nats) ∧ Hid (Kept (fun b => w.heap.size < b ∧ b < w1.heap.size) w1 w2) ∧ w1.heap.size ≤ w2.heap.size ∧ Below w.heap.size w w2) (fun jv _ => row.length - (intOf jv).toNat)
    case atStart => exact ⟨0, hs, Nat.zero_le _, rfl, b1, m0, K, hz, hb⟩
    case round =>
     clear b1 m0 K hz hb x0
     obtain ⟨j, hs, hj, rfl, b1, m0, K, hz, hb⟩ := hrel
     by_cases hjl : j < row.length
     · have j0 : (0 : Int) ≤ j := by omega
       have j1 : (j : Int) < row.length := by omega
       obtain ⟨q, hq⟩ : ∃ q, row[j]? = some q := ⟨_, List.getElem?_eq_getElem hjl⟩
       have hql : q < g.length := hmem q (List.mem_of_getElem? hq)
       obtain ⟨br, orr, rfl, hbr, y0⟩ := ints_at ((hrd.keep K.out).rd (B := w1.heap.size) (fun b h => h.2)) (k := j) (by rw [hnl]; exact hjl)
       have hqv : (nats row)[j]?.getD 0 = (q : Int) := by simp [nats, hq]
       rw [hqv] at y0
       have q0 : (0 : Int) ≤ q := by omega
       have q1 : (q : Int) < g.length := by omega
       have Hst := Lib.hid (hst.out j q hq (by omega))
       have hpl : (predsAt cg i j).length = cg.length := predsAt_len _ _
       have hqp : q < (predsAt cg i j).length := by omega
       have hget := map_nats_get (predsAt cg i j) hqp
       rw [predsAt_get (by omega)] at hget
       have hln := predsTo_len (c := cg) i j q
       obtain ⟨A2, c2, hh1, hh2, hown⟩ := m0.get (k := q) (by simpa using hqp)
       rw [show ((predsAt cg i j).map nats).getD q [] = nats (predsTo cg i j q) by rw [List.getD_eq_getElem?_getD, hget]; rfl] at hown
       have hmap : ((predsAt cg i j).set q (predsTo cg i j q ++ [i])).map nats = ((predsAt cg i j).map nats).set q (nats (predsTo cg i j q) ++ [(i : Int)]) := by rw [List.map_set, nats_snoc]
       have Hmap := Lib.hid hmap
       have hla : (nats (predsTo cg i j q)).length ≤ 100001 := by rw [nats_len]; omega
       have hlm : q < ((predsAt cg i j).map nats).length := by simpa using hqp
       clear hh2 hq hqv hmap hpl hqp hln
       generalize nats (predsTo cg i j q) = la at *
       generalize (predsAt cg i j).map nats = lm at *
       have y2 : wr.cell? ⟨w.heap.size, q, none⟩ = some (.slice A2 la.length c2) := hdrs_cell b1 hh1 hget
       have hl1 := b1.lt
       go_wp2_with (at_builtin
                    refine wpList_append_row rfl (.tmp 30) (.tmp 32) 47 rfl w1.heap.size 3 _ 1 8 Tryz.underlying47 infoIntR rfl (by omega) A2 c2 la.length (ints la) rfl (hown.alloc _) wr.heap.size 1 1 3 [.int .i64 (i : Int)] rfl (Blk.new _ _ _) rfl (by intro u hu; simp at hu; subst hu; rfl) (by unfold maxLen; omega) (by omega) (by simp; omega) ?_
                    intro A3 c3 w3 hown3 hg3 hat3
                    have b1'' := (b1.alloc _).grown hg3 (fun e => blk_own_ne (g := w.heap.size) (by omega) hown e.symm)
                    have y4 := hdrs_cell b1'' hh1 hget
                    have f4 := b1''.frozen q)
       go_roundw
       case rel => exact ⟨j + 1, hs.set q (A3, c3), by omega, by go_num, by rw [Hst.out, Hmap.out]; exact hdrs_blk_put b1'' q A3 c3 (by simp), by
        rw [Hst.out, Hmap.out]
        exact ((m0.alloc _).grown hh1 hlm hown3 (by simp) (by simp [ints]) hg3 hat3).far (grown_setCell _ _ _) (by show w.heap.size < w1.heap.size; omega), Lib.hid (Kept.set (Kept.grown (Kept.alloc K.out (fun b h => by omega) _) hg3 (fun b h => by simp; omega) (fun b h e => by have := (hown.lt b e.symm).1; omega)) (by show ¬ (w.heap.size < w.heap.size ∧ _); omega) _), by have := hg3.size; simp at this ⊢; omega, ((hb.alloc hb.size _).grown hg3 (by simp; omega) (fun k hk => by have := (hown.lt k hk).1; omega)).setCell (Nat.le_refl _) _⟩
       case measure => simp [intOf]; omega
     · have e : row.length ≤ j := by omega
       have hge : ¬ (j : Int) < row.length := by omega
       rw [hrw.out j e] at b1 m0
       clear hjl e
       go_wp2
       go_roundw
       case rel => exact ⟨i + 1, hs, by omega, by go_num, b1, m0, K, hz, hb⟩
       case measure => simp [intOf]; omega
  · have e : i = cg.length := by omega
    have hge : ¬ (i : Int) < g.length := by omega
    rw [e, predsAt_fin] at b1 m0
    clear e hlt
    go_wp2
    exact HP.out _ _ b1 (m0.lower (by omega)) hb
end Go.Proofs.YtjjmpfmhggcjiaaGreatDoor
