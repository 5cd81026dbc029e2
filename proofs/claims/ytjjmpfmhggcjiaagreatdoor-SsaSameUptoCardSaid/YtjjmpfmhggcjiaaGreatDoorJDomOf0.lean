/-
 Dom3, DomOf0.
-/
import Derived.Test.YtjjmpfmhggcjiaaGreatDoorJDom2
set_option linter.unusedSimpArgs false
set_option linter.unusedVariables false
namespace Go.Proofs.YtjjmpfmhggcjiaaGreatDoor
open Go.RowKit Go.Maps
/-- A tree, as Above reads it. -/
structure TreeAt (w : World) (gt gi gd : Nat) (n : Nat) (idm dep : List Int) : Prop where
 t1 : w.cell? ⟨gt, 1, none⟩ = some (.slice (some ⟨gi, 0, none⟩) n n)
 t2 : w.cell? ⟨gt, 2, none⟩ = some (.slice (some ⟨gd, 0, none⟩) n n)
 bi : Blk w gi 3 ⟨ints idm⟩
 bd : Blk w gd 3 ⟨ints dep⟩
def domTP (E : Nat → Nat → Prop) (n : Nat) (a : Int) : Prop := 0 ≤ a ∧ a < n ∧ Reach E a.toNat
open Classical in
/-- What holds, as a Bool. -/
noncomputable def dec (p : Prop) : Bool := decide p
open Classical in
theorem dec_t {p : Prop} (h : p) : dec p = true := by unfold dec; exact decide_eq_true h
open Classical in
theorem dec_f {p : Prop} (h : ¬ p) : dec p = false := by unfold dec; exact decide_eq_false h
open Classical in
theorem dec_p {p : Prop} (h : dec p = true) : p := by unfold dec at h; exact of_decide_eq_true h
open Classical in
theorem dec_n {p : Prop} (h : dec p = false) : ¬ p := by unfold dec at h; exact of_decide_eq_false h
noncomputable def domTB (E : Nat → Nat → Prop) (n : Nat) (a : Int) : Bool := dec (domTP E n a)
set_option maxRecDepth 100000 in
set_option maxHeartbeats 1000000 in
theorem domThere_any {E : Nat → Nat → Prop} {n : Nat} {idm dep : List Int} (T : TreeOk E n idm dep) {w : World} {gt gi gd : Nat} (H : TreeAt w gt gi gd n idm dep) (i : Int) :
 Calls Tryz.prog 136 #[.pointer (some ⟨gt, 0, none⟩), .int .i64 i] w fun e w' => e = .returned (.bool (domTB E n i)) ∧ w = w' := by
 obtain ⟨t1, t2, bi, bd⟩ := H
 have li := T.li
 by_cases h0 : i = 0
 · subst h0
   by_cases hn : 0 < n
   · have hB : domTB E n 0 = true := dec_t ⟨by omega, by omega, .zero⟩
     have HB := Lib.hid hB
     have n0 : (0 : Int) < n := by omega
     clear hB
     go_enter Tryz.func136, Tryz.ntmps136
     go_wp2
     go_ret
     exact ⟨ret_bool (by rw [HB.out]), rfl⟩
   · have hB : domTB E n 0 = false := dec_f fun h => by have := h.2.1; omega
     have HB := Lib.hid hB
     have n0 : ¬ (0 : Int) < n := by omega
     clear hB
     go_enter Tryz.func136, Tryz.ntmps136
     go_wp2
     go_ret
     exact ⟨ret_bool (by rw [HB.out]), rfl⟩
 · have e0 : (i == 0) = false := by simpa using h0
   by_cases hp : 0 < i
   · have p1 : decide (0 < i) = true := by simpa using hp
     by_cases hl : i < n
     · obtain ⟨k, rfl⟩ : ∃ k : Nat, i = k := ⟨i.toNat, by omega⟩
       have y := ints_cell bi (show k < idm.length by omega)
       have hth := T.there (k := k) (by omega) (by omega)
       generalize idm.getD k 0 = v at *
       have k0 : (0 : Int) ≤ k := by omega
       by_cases hv : v = -1
       · have hB : domTB E n k = false := dec_f fun h => by have := hth.2 (by simpa using h.2.2); exact this hv
         have HB := Lib.hid hB
         subst hv
         clear hB hth h0
         go_enter Tryz.func136, Tryz.ntmps136
         go_wp2
         go_ret
         exact ⟨ret_bool (by rw [HB.out]), rfl⟩
       · have hB : domTB E n k = true := dec_t ⟨by omega, by omega, by simpa using hth.1 hv⟩
         have HB := Lib.hid hB
         have v1 : (v != -1) = true := by simpa using hv
         clear hB hth h0 hv
         go_enter Tryz.func136, Tryz.ntmps136
         go_wp2
         go_ret
         exact ⟨ret_bool (by rw [HB.out]), rfl⟩
     · have hB : domTB E n i = false := dec_f fun h => by have := h.2.1; omega
       have HB := Lib.hid hB
       have l1 : decide (i < n) = false := by simpa using hl
       clear hB hl
       go_enter Tryz.func136, Tryz.ntmps136
       go_wp2
       go_ret
       exact ⟨ret_bool (by rw [HB.out]), rfl⟩
   · have hB : domTB E n i = false := dec_f fun h => by have := h.1; omega
     have HB := Lib.hid hB
     have p1 : decide (0 < i) = false := by simpa using hp
     clear hB hp
     go_enter Tryz.func136, Tryz.ntmps136
     go_wp2
     go_ret
     exact ⟨ret_bool (by rw [HB.out]), rfl⟩
def aboveP (E : Nat → Nat → Prop) (n : Nat) (a b : Int) : Prop := domTP E n a ∧ domTP E n b ∧ Dm E a.toNat b.toNat
noncomputable def aboveB (E : Nat → Nat → Prop) (n : Nat) (a b : Int) : Bool := dec (aboveP E n a b)
def AboveP (w : World) (r : Bool) (e : Ending) (w' : World) : Prop := ∃ q, e = .returned (.bool r) ∧ w' = w.drewN q
set_option maxRecDepth 100000 in
set_option maxHeartbeats 1000000 in
theorem above_any {E : Nat → Nat → Prop} {n : Nat} {idm dep : List Int} (T : TreeOk E n idm dep) (hn : n ≤ 100000) {w : World} {gt gi gd : Nat} (H : TreeAt w gt gi gd n idm dep) (a b : Int) :
 Calls Tryz.prog 93 #[.pointer (some ⟨gt, 0, none⟩), .int .i64 a, .int .i64 b] w (AboveP w (aboveB E n a b)) := by
 have hPP : ∀ r q, aboveB E n a b = r → AboveP w (aboveB E n a b) (.returned (.bool r)) (w.drewN q) := fun r q e => ⟨q, by rw [e], rfl⟩
 have HP := Lib.hid hPP
 clear hPP
 generalize AboveP w (aboveB E n a b) = Post at *
 have H1 := Lib.hid (fun i => domThere_any T H i)
 cases ha : domTB E n a with
 | false =>
   have hB : aboveB E n a b = false := dec_f fun h => by
    have := h.1
    rw [show domTB E n a = true from dec_t this] at ha
    cases ha
   have h1 := H1.out a
   rw [ha] at h1
   have H2 := Lib.hid h1
   have HB := Lib.hid hB
   clear h1 hB ha
   go_enter Tryz.func93, Tryz.ntmps93
   go_wp2_with fail
   refine (H2.out).mono ?_
   rintro e w' ⟨rfl, rfl⟩
   go_wp2
   exact HP.out _ 0 HB.out
 | true =>
   have hta : domTP E n a := dec_p ha
   cases hb : domTB E n b with
   | false =>
     have hB : aboveB E n a b = false := dec_f fun h => by
      have := h.2.1
      rw [show domTB E n b = true from dec_t this] at hb
      cases hb
     have h1 := H1.out a
     rw [ha] at h1
     have h2 := H1.out b
     rw [hb] at h2
     have H2 := Lib.hid h1
     have H3 := Lib.hid h2
     have HB := Lib.hid hB
     clear h1 h2 hB ha hb
     go_enter Tryz.func93, Tryz.ntmps93
     go_wp2_with fail
     refine (H2.out).mono ?_
     rintro e w' ⟨rfl, rfl⟩
     go_wp2_with fail
     refine (H3.out).mono ?_
     rintro e w' ⟨rfl, rfl⟩
     go_wp2
     exact HP.out _ 0 HB.out
   | true =>
     have htb : domTP E n b := dec_p hb
     have h1 := H1.out a
     rw [ha] at h1
     have h2 := H1.out b
     rw [hb] at h2
     have H2 := Lib.hid h1
     have H3 := Lib.hid h2
     clear h1 h2 ha hb
     obtain ⟨a, rfl⟩ : ∃ k : Nat, a = k := ⟨a.toNat, by have := hta.1; omega⟩
     obtain ⟨b, rfl⟩ : ∃ k : Nat, b = k := ⟨b.toNat, by have := htb.1; omega⟩
     have hra : Reach E a := by simpa using hta.2.2
     have hrb : Reach E b := by simpa using htb.2.2
     have hla : a < n := by have := hta.2.1; omega
     have hlb : b < n := by have := htb.2.1; omega
     have HE := Lib.hid (show aboveB E n a b = true ↔ Dm E a b from ⟨fun h => by simpa using (dec_p h).2.2, fun h => dec_t ⟨hta, htb, by simpa using h⟩⟩)
     have HT := Lib.hid T
     have Hra := Lib.hid hra
     have Hrb := Lib.hid hrb
     obtain ⟨t1, t2, bi, bd⟩ := H
     have ya := ints_cell bd (show a < dep.length by rw [T.ld]; exact hla)
     have a0 : (0 : Int) ≤ a := by omega
     have a1 : (a : Int) < n := by omega
     clear hta htb hra hrb T
     generalize hda : dep.getD a 0 = da at ya
     have Hda := Lib.hid hda
     clear hda
     go_enter Tryz.func93, Tryz.ntmps93
     go_wp2_with fail
     refine (H2.out).mono ?_
     rintro e w' ⟨rfl, rfl⟩
     go_wp2_with fail
     refine (H3.out).mono ?_
     rintro e w' ⟨rfl, rfl⟩
     go_wp2
     go_loopg [2] ((dep.getD b 0).toNat + 1) (fun k bv wr => ∃ b' q : Nat, bv = .int .i64 (b' : Int) ∧ b' < n ∧ Hid (Reach E b') ∧ Hid (Dm E a b ↔ Dm E a b') ∧ (dep.getD b' 0).toNat < k ∧ wr = w.drewN q)
     case atStart => exact ⟨b, 0, rfl, hlb, Hrb, Lib.hid Iff.rfl, Nat.lt_succ_self _, rfl⟩
     case round =>
      obtain ⟨b', q, rfl, hb', hr', hD, hk, rfl⟩ := hrel
      have yb := ints_cell bd (show b' < dep.length by rw [HT.out.ld]; exact hb')
      have yi := ints_cell bi (show b' < idm.length by rw [HT.out.li]; exact hb')
      have b0 : (0 : Int) ≤ b' := by omega
      have b1 : (b' : Int) < n := by omega
      have hnn := HT.out.dep0 hla Hra.out
      by_cases hd : dep.getD a 0 < dep.getD b' 0
      · obtain ⟨u, hu, hul, hur, huD, hud⟩ := HT.out.above_step hla Hra.out hb' hr'.out hd
        have hu0 := HT.out.dep0 hul hur
        rw [hu] at yi
        rw [Hda.out] at hd
        have hk2 : (dep.getD u 0).toNat < (dep.getD b' 0).toNat := by omega
        have hD' := Lib.hid (hD.out.trans huD)
        have Hur := Lib.hid hur
        generalize hdb : dep.getD b' 0 = db at *
        have Hdb := Lib.hid hdb
        have g1 : decide (da < db) = true := by simpa using hd
        clear hdb hu hur huD hud hu0 hnn hD hr' hd
        go_wp2
        go_quiet (fail)
        rename Nat => q2
        go_wp2
        go_roundg ((dep.getD u 0).toNat + 1)
        case measure => omega
        case rel => exact ⟨u, _, rfl, hul, Hur, hD', Nat.lt_succ_self _, by first | rfl | exact World.drewN_drewN _ _ _⟩
      · have hend := HT.out.above_end (a := a) hb' hr'.out (by omega)
        rw [Hda.out] at hd
        have HD := Lib.hid (HE.out.trans (hD.out.trans hend))
        generalize hdb : dep.getD b' 0 = db at *
        have Hdb := Lib.hid hdb
        have g1 : decide (da < db) = false := by simpa using hd
        clear hdb hend hnn hD hr' hd
        by_cases hab : a = b'
        · subst hab
          have HB := Lib.hid (HD.out.2 rfl)
          go_wp2
          go_quiet (fail)
          rename Nat => q2
          go_wp2
          first | exact HP.out _ _ HB.out | (rw [World.drewN_drewN]; exact HP.out _ _ HB.out)
        · have hB : aboveB E n a b = false := by
           cases h : aboveB E n a b with
           | false => rfl
           | true => exact absurd (HD.out.1 h) hab
          have HB := Lib.hid hB
          have g2 : ((a : Int) == (b' : Int)) = false := by
           have : (a : Int) ≠ b' := by omega
           simpa using this
          have g3 : (a == b') = false := by simpa using hab
          clear hB hab
          go_wp2
          go_quiet (fail)
          rename Nat => q2
          go_wp2
          first | exact HP.out _ _ HB.out | (rw [World.drewN_drewN]; exact HP.out _ _ HB.out)
end Go.Proofs.YtjjmpfmhggcjiaaGreatDoor
namespace Go.Proofs.YtjjmpfmhggcjiaaGreatDoor
open Go.RowKit Go.Maps
/-- These blocks stay. -/
def KB (S : Nat → Prop) (w w' : World) : Prop := ∀ b, S b → w'.heap[b]? = w.heap[b]?
section
variable {w w' w2 : World} {S S' : Nat → Prop}
theorem KB.refl (S : Nat → Prop) (w : World) : KB S w w := fun _ _ => rfl
theorem KB.trans (h1 : KB S w w') (h2 : KB S w' w2) : KB S w w2 := fun b hb => (h2 b hb).trans (h1 b hb)
theorem KB.sub (h : KB S w w') (hs : ∀ b, S' b → S b) : KB S' w w' := fun b hb => h b (hs b hb)
theorem KB.set {p : Addr} (h : KB S w w') (hp : ¬ S p.block) (u : Value) : KB S w (w'.setCell p u) := fun b hb => (Below.heap_setCell _ _ _ _ (fun e => hp (e ▸ hb))).trans (h b hb)
theorem KB.alloc (h : KB S w w') (hS : ∀ b, S b → b < w'.heap.size) (o : Obj) : KB S w (w'.alloc o) := fun b hb => (Below.heap_alloc w' o b (hS b hb)).trans (h b hb)
theorem KB.grown {row : Option Nat} (h : KB S w w') (hg : w'.grownBy w2 row) (hS : ∀ b, S b → b < w'.heap.size) (hne : ∀ b, S b → some b ≠ row) : KB S w w2 := fun b hb => (hg.block b (hS b hb) (hne b hb)).trans (h b hb)
theorem KB.below {B : Nat} (h : KB S w w') (hb : Below B w' w2) (hS : ∀ b, S b → b < B) : KB S w w2 := fun b hs => (hb.block b (hS b hs)).trans (h b hs)
theorem KB.of_below {B : Nat} (hb : Below B w w') (hs : ∀ b, S b → b < B) : KB S w w' := fun b h => hb.block b (hs b h)
theorem KB.of_grown {row : Option Nat} (hg : w.grownBy w' row) (hS : ∀ b, S b → b < w.heap.size) (hne : ∀ b, S b → some b ≠ row) : KB S w w' := fun b hb => hg.block b (hS b hb) (hne b hb)
theorem KB.kept (h : KB S w w') : Kept S w w' := fun p hp => World.cell?_of_block (h p.block hp)
theorem Blk.kb {g : Nat} {t : TypeId} {cs : Array Value} (h : Blk w g t cs) (hk : KB S w w') (hg : S g) : Blk w' g t cs := (hk g hg).trans h
theorem own_kb {base : Nat} {e : TypeId} {size n : Nat} {v : Value} {xs : List Value} (h : w.ownsRow base e size v n xs) (hk : ∀ g, v.ownBlock = some g → w'.heap[g]? = w.heap[g]?) : w'.ownsRow base e size v n xs := by
 refine ⟨h.1, ?_⟩
 rcases h.2 with h0 | ⟨g, cap, cur, hv, h1, h2, h3⟩
 · exact .inl h0
 · exact .inr ⟨g, cap, cur, hv, h1, by rw [hk g (by subst hv; rfl)]; exact h2, h3⟩
theorem OwnMat.kb {base : Nat} {e : TypeId} {hs : List (Option Addr × Nat)} {ls : List (List Int)} (M : OwnMat w base e hs ls) (hk : KB S w w') (hS : ∀ (k : Nat) (h : Option Addr × Nat) (b : Nat), hs[k]? = some h → h.1.map (·.block) = some b → S b) : OwnMat w' base e hs ls :=
 ⟨M.len, fun k h l h1 h2 => own_kb (M.own k h l h1 h2) (fun g hg => hk g (hS k h g h1 (by rw [← hdr_block h l]; exact hg))), M.apart⟩
/-- One of them is turned where it lies. -/
theorem OwnMat.turn {base : Nat} {e : TypeId} {hs : List (Option Addr × Nat)} {ls : List (List Int)} (M : OwnMat w base e hs ls) {k : Nat} {A : Option Addr} {c : Nat} {l' : List Int} (hk : hs[k]? = some (A, c)) (hkl : k < ls.length) (hl : l'.length = (ls.getD k []).length)
 (hown : w'.ownsRow base e 1 (.slice A l'.length c) l'.length (ints l')) (hg : w.grownBy w' (Value.slice A (ls.getD k []).length c).ownBlock) : OwnMat w' base e hs (ls.set k l') := by
 have e1 : hs.set k (A, c) = hs := by
  apply List.ext_getElem?
  intro i
  by_cases e : k = i
  · subst e
    rw [List.getElem?_set_self (by rw [M.len]; exact hkl), hk]
  · rw [List.getElem?_set_ne e]
 have := M.grown (k := k) (n := l'.length) (m := (ls.getD k []).length) (A' := A) (c' := c) (l' := l') hk hkl hown rfl rfl hg (.inl (by cases A <;> rfl))
 rwa [e1] at this
end
/-- They can be read: their blocks alone count. -/
theorem OwnMat.rd2 {w : World} {base : Nat} {e : TypeId} {hs : List (Option Addr × Nat)} {ls : List (List Int)} {G : Nat} {t : TypeId} (M : OwnMat w base e hs ls) (hG : Blk w G t ⟨hdrs hs ls⟩) {S : Nat → Prop} (hSG : S G) (hS : ∀ (k : Nat) (h : Option Addr × Nat) (b : Nat), hs[k]? = some h → h.1.map (·.block) = some b → S b) : RdL rowShape w S (some ⟨G, 0, none⟩) ls := by
 refine ⟨hs, M.len, ?_, fun k l h h1 h2 => ?_⟩
 · have e : rowShape.cells ls hs = hdrs hs ls := by
    unfold Shape.cells hdrs rowShape
    simp only
    have hl := M.len
    clear M hG hS
    induction ls generalizing hs with
    | nil => simp
    | cons l ls ih =>
      cases hs with
      | nil => simp at hl
      | cons h hs =>
        simp only [List.zip_cons_cons, List.flatMap_cons, List.zipWith_cons_cons, List.cons_append, List.nil_append]
        rw [ih (by simpa using hl)]
   rw [e]
   exact ⟨by rw [hdrs_len M.len]; exact (Nat.mul_one _).symm, fun _ => ⟨G, 0, rfl, hSG, fun j u hu => by rw [Nat.zero_add, hG.cell]; simpa using hu⟩⟩
 · have ho := M.own k h l h2 h1
   obtain ⟨A, c⟩ := h
   refine ⟨by simp [ints], fun hn => ?_⟩
   rcases ho.2 with ⟨hv, hn0⟩ | ⟨g, cap, cur, hv, hb, hh, _⟩
   · omega
   · cases hv
     refine ⟨g, 0, rfl, hS k _ g h2 rfl, fun j u hu => ?_⟩
     have := ho.cells (g := g) rfl j u hu
     have e1 : (⟨g, 0, none⟩ : Addr).add j = ⟨g, 0 + j, none⟩ := by
      unfold Addr.add
      by_cases hj : j = 0 <;> simp [hj]
     rwa [e1] at this
/-- A row of one's own, read. -/
theorem own_rds {w : World} {base : Nat} {e : TypeId} {size n c g : Nat} {xs : List Value} (h : w.ownsRow base e size (.slice (some ⟨g, 0, none⟩) n c) n xs) {S : Nat → Prop} (hS : S g) : RdS w S size (some ⟨g, 0, none⟩) n xs := by
 refine ⟨h.1, fun hn => ⟨g, 0, rfl, hS, fun j u hu => ?_⟩⟩
 have := h.cells (g := g) rfl j u hu
 have e1 : (⟨g, 0, none⟩ : Addr).add j = ⟨g, 0 + j, none⟩ := by
  unfold Addr.add
  by_cases hj : j = 0 <;> simp [hj]
 rwa [e1] at this
def initF (k n : Nat) : List Int := List.replicate k (-1) ++ List.replicate (n - k) 0
theorem initF_len {k n : Nat} (h : k ≤ n) : (initF k n).length = n := by simp [initF]; omega
theorem initF_zero (n : Nat) : initF 0 n = List.replicate n 0 := by simp [initF]
theorem initF_all (n : Nat) : initF n n = List.replicate n (-1) := by simp [initF]
theorem initF_set {k n : Nat} (h : k < n) : (initF k n).set k (-1) = initF (k + 1) n := by
 unfold initF
 rw [List.set_append_right _ _ (by simp), List.length_replicate, Nat.sub_self]
 obtain ⟨m, hm⟩ : ∃ m, n - k = m + 1 := ⟨n - k - 1, by omega⟩
 rw [hm, List.replicate_succ, List.set_cons_zero, show n - (k + 1) = m by omega]
 rw [show List.replicate (k + 1) (-1 : Int) = List.replicate k (-1) ++ [-1] from List.replicate_succ', List.append_assoc]
 rfl
section
variable {l : List Nat} {n k i u : Nat} {al dl idl : List Int} {E : Nat → Nat → Prop}
structure AtK (l : List Nat) (k n : Nat) (al : List Int) : Prop where
 len : al.length = n
 yes : ∀ m i, m < k → l[m]? = some i → al.getD i 0 = m
 no : ∀ j, j < n → j ∉ l.take k → al.getD j 0 = -1
theorem nodup_at (h : l.Nodup) {m m' : Nat} (h1 : l[m]? = some i) (h2 : l[m']? = some i) : m = m' := by
 obtain ⟨a1, rfl⟩ := List.getElem?_eq_some_iff.1 h1
 obtain ⟨a2, e⟩ := List.getElem?_eq_some_iff.1 h2
 exact (List.getElem_inj h).1 e.symm
theorem AtK.start : AtK l 0 n (List.replicate n (-1)) := by
 refine ⟨by simp, fun m i h => by omega, fun j hj _ => ?_⟩
 simp [List.getD_eq_getElem?_getD, hj]
theorem AtK.step (H : AtK l k n al) (hl : l.Nodup) (hi : l[k]? = some i) (hn : i < n) : AtK l (k + 1) n (al.set i k) := by
 have hil : i < al.length := by rw [H.len]; exact hn
 have hg : ∀ j, (al.set i (k : Int)).getD j 0 = if j = i then (k : Int) else al.getD j 0 := fun j => by
  by_cases e : j = i
  · subst e; simp [hil]
  · have e' : ¬ i = j := fun h => e h.symm
    simp [e, e']
 refine ⟨by simp [H.len], fun m j hm hj => ?_, fun j hj hno => ?_⟩
 · rw [hg]
   by_cases e : j = i
   · subst e
     rw [if_pos rfl, nodup_at hl hj hi]
   · rw [if_neg e]
     have : m ≠ k := fun h => by subst h; rw [hi] at hj; cases hj; exact e rfl
     exact H.yes m j (by omega) hj
 · rw [List.take_add_one, hi, List.mem_append] at hno
   rw [hg, if_neg (fun e => hno (.inr (by simp [e])))]
   exact H.no j hj (fun h => hno (.inl h))
theorem idx_at (hl : l.Nodup) {m : Nat} (h : l[m]? = some i) : l.idxOf i = m := by
 obtain ⟨a1, rfl⟩ := List.getElem?_eq_some_iff.1 h
 exact hl.idxOf_getElem m a1
theorem at_idx (h : i ∈ l) : l[l.idxOf i]? = some i := by
 have := List.idxOf_lt_length_of_mem h
 rw [List.getElem?_eq_getElem this, List.getElem_idxOf this]
theorem AtK.fin (H : AtK l l.length n al) (hl : l.Nodup) (hn : ∀ i ∈ l, i < n) : AtL l (fun k => l.idxOf k) n al := by
 refine ⟨H.len, fun i hi => ⟨hn i hi, H.yes _ i (List.idxOf_lt_length_of_mem hi) (at_idx hi)⟩, fun j hj hno => H.no j hj (by rw [List.take_length]; exact hno)⟩
/-- How deep places lie. -/
structure DepK (idl : List Int) (l : List Nat) (n k : Nat) (dl : List Int) : Prop where
 len : dl.length = n
 root : dl.getD 0 0 = 0
 low : ∀ m i, m ≤ k → l[m]? = some i → 0 ≤ dl.getD i 0 ∧ dl.getD i 0 ≤ m
 up : ∀ m i, 1 ≤ m → m ≤ k → l[m]? = some i → ∀ u : Nat, idl.getD i 0 = u → dl.getD i 0 = dl.getD u 0 + 1
theorem DepK.start : DepK idl l n 0 (List.replicate n 0) := by
 have hz : ∀ j, (List.replicate n (0 : Int)).getD j 0 = 0 := fun j => by
  simp only [List.getD_eq_getElem?_getD, List.getElem?_replicate]; split <;> rfl
 exact ⟨by simp, hz 0, fun m i _ _ => by rw [hz]; omega, fun m i h1 h2 => by omega⟩
theorem DepK.step (H : DepK idl l n k dl) (hl : l.Nodup) (h0 : l[0]? = some 0) (hU : ∀ m i (u : Nat), 1 ≤ m → l[m]? = some i → idl.getD i 0 = u → ∃ m', m' < m ∧ l[m']? = some u) (hi : l[k + 1]? = some i) (hn : i < n) (hu : idl.getD i 0 = (u : Int)) :
 DepK idl l n (k + 1) (dl.set i (dl.getD u 0 + 1)) := by
 have hil : i < dl.length := by rw [H.len]; exact hn
 have hg : ∀ (v : Int) j, (dl.set i v).getD j 0 = if j = i then v else dl.getD j 0 := fun v j => by
  by_cases e : j = i
  · subst e; simp [hil]
  · have e' : ¬ i = j := fun h => e h.symm
    simp [e, e']
 have hne : ∀ m j, m ≤ k → l[m]? = some j → j ≠ i := fun m j hm hj e => by
  subst e
  have := nodup_at hl hj hi
  omega
 obtain ⟨m', hm', hum⟩ := hU (k + 1) i u (by omega) hi hu
 have hui : u ≠ i := hne m' u (by omega) hum
 have hul := H.low m' u (by omega) hum
 refine ⟨by simp [H.len], ?_, fun m j hm hj => ?_, fun m j h1 hm hj v hv => ?_⟩
 · rw [hg, if_neg (hne 0 0 (by omega) h0).symm.symm]; exact H.root
 · by_cases e : m = k + 1
   · subst e
     rw [hi] at hj; cases hj
     rw [hg, if_pos rfl]; omega
   · rw [hg, if_neg (hne m j (by omega) hj)]; exact H.low m j (by omega) hj
 · obtain ⟨m2, hm2, hv2⟩ := hU m j v h1 hj hv
   have hvi : v ≠ i := hne m2 v (by omega) hv2
   by_cases e : m = k + 1
   · subst e
     rw [hi] at hj; cases hj
     rw [hu] at hv
     obtain rfl : u = v := by omega
     rw [hg, if_pos rfl, hg, if_neg hui]
   · rw [hg, if_neg (hne m j (by omega) hj), hg, if_neg hvi]
     exact H.up m j h1 (by omega) hj v hv
theorem done_up (D : DoneL E l (fun k => l.idxOf k) n idl) (hl : l.Nodup) (h0 : l[0]? = some 0) {m : Nat} (h1 : 1 ≤ m) (hi : l[m]? = some i) : ∃ u : Nat, idl.getD i 0 = u ∧ ∃ m', m' < m ∧ l[m']? = some u := by
 have hmem := List.mem_of_getElem? hi
 have hi0 : i ≠ 0 := fun e => by subst e; have := nodup_at hl hi h0; omega
 obtain ⟨u, a1, a2, a3, a4⟩ := D.up i hmem hi0
 rw [idx_at hl hi] at a3
 exact ⟨u, a1, l.idxOf u, a3, at_idx a2⟩
theorem tree_of {pos tp : Nat → Nat} (D : DoneL E l (fun k => l.idxOf k) n idl) (O : Ordd E l pos tp) (hl : l.Nodup) (h0 : l[0]? = some 0) (hn : ∀ i ∈ l, i < n) (H : DepK idl l n (l.length - 1) dl) : TreeOk E n idl dl := by
 refine ⟨D.len, H.len, fun _ => ⟨D.root, H.root⟩, fun k hk hr => D.out k hk (fun h => hr ((O.mem k).1 h)), fun k hk hk0 hr => ?_⟩
 have hmem := (O.mem k).2 hr
 obtain ⟨u, a1, a2, a3, a4⟩ := D.up k hmem hk0
 have hm := at_idx hmem
 have hlt := List.idxOf_lt_length_of_mem hmem
 have h1 : 1 ≤ l.idxOf k := by
  rcases Nat.eq_zero_or_pos (l.idxOf k) with h | h
  · rw [h, h0] at hm; cases hm; exact absurd rfl hk0
  · exact h
 exact ⟨u, a1, hn u a2, (O.mem u).1 a2, a4, H.up _ k h1 (by omega) hm u a1, (H.low _ u (by have := List.idxOf_lt_length_of_mem a2; omega) (at_idx a2)).1⟩
end
theorem reach_lt {g : List (List Int)} {k : Nat} (h : Reach (EI g) k) (h0 : 0 < g.length) : k < g.length := by
 cases h with
 | zero => exact h0
 | step _ e => exact e.1
theorem predsF_le (g : List (List Int)) (k : Nat) : ((predsF (cleanF g)).getD k []).length ≤ g.length := by
 by_cases hk : k < g.length
 · unfold predsF
   rw [cleanF_len, List.getD_eq_getElem?_getD, List.getElem?_map, List.getElem?_range hk]
   simp only [Option.map_some, Option.getD_some]
   exact Nat.le_trans (List.length_filter_le _ _) (by simp)
 · rw [List.getD_eq_getElem?_getD, List.getElem?_eq_none (by simp [predsF, cleanF_len]; omega)]
   simp
theorem hdrs_turn {hs : List (Option Addr × Nat)} {ls : List (List Int)} {k : Nat} {A : Option Addr} {c : Nat} {l' : List Int} (hk : hs[k]? = some (A, c)) (hkl : k < ls.length) (hl : l'.length = (ls.getD k []).length) : hdrs hs (ls.set k l') = hdrs hs ls := by
 unfold hdrs
 apply List.ext_getElem?
 intro i
 rw [List.getElem?_zipWith, List.getElem?_zipWith]
 by_cases e : k = i
 · subst e
   rw [List.getElem?_set_self hkl, hk]
   have : ls[k]? = some (ls.getD k []) := by simp [hkl]
   rw [this]
   simp only [hdr, hl]
 · rw [List.getElem?_set_ne e]
end Go.Proofs.YtjjmpfmhggcjiaaGreatDoor
