/-
 DomPure2, RegInv, FlowPure, Shelf3, SettlePure, PgEff3.
-/
import Derived.RegionTactic
import Derived.Shelf.Slices.Reverse
import Derived.Shelf.Slices.Clone
import Derived.Test.YtjjmpfmhggcjiaaGreatDoorProg
import Derived.IntWalk
import Derived.Test.YtjjmpfmhggcjiaaGreatDoorJDfsPure
import Derived.Test.YtjjmpfmhggcjiaaGreatDoorJConcat
set_option linter.unusedSimpArgs false
set_option linter.unusedVariables false
namespace Go.Proofs.YtjjmpfmhggcjiaaGreatDoor
/-- The edges of rows of integers: those that name a place. -/
def EI (g : List (List Int)) (p k : Nat) : Prop := k < g.length ∧ (k : Int) ∈ g.getD p []
section
variable {E : Nat → Nat → Prop}
end
section
variable {g : List (List Int)} {x : Int} {seen : List Bool} {todo cur : List Nat}
end
/-! ### a tree -/
structure TreeOk (E : Nat → Nat → Prop) (n : Nat) (idm dep : List Int) : Prop where
 li : idm.length = n
 ld : dep.length = n
 root : 0 < n → idm.getD 0 0 = -1 ∧ dep.getD 0 0 = 0
 out : ∀ k, k < n → ¬ Reach E k → idm.getD k 0 = -1
 up : ∀ k, k < n → k ≠ 0 → Reach E k → ∃ u : Nat, idm.getD k 0 = u ∧ u < n ∧ Reach E u ∧ (∀ x, x ≠ k → (Dm E x k ↔ Dm E x u)) ∧ dep.getD k 0 = dep.getD u 0 + 1 ∧ 0 ≤ dep.getD u 0
section
variable {E : Nat → Nat → Prop} {n : Nat} {idm dep : List Int}
theorem TreeOk.dep0 (T : TreeOk E n idm dep) {k : Nat} (hk : k < n) (hr : Reach E k) : 0 ≤ dep.getD k 0 := by
 by_cases h0 : k = 0
 · subst h0; rw [(T.root hk).2]; omega
 · obtain ⟨u, _, _, _, _, h1, h2⟩ := T.up k hk h0 hr
   omega
theorem TreeOk.low (T : TreeOk E n idm dep) (a : Nat) : ∀ (d b : Nat), b < n → Reach E b → (dep.getD b 0).toNat ≤ d → Dm E a b → a = b ∨ dep.getD a 0 < dep.getD b 0 := by
 intro d
 induction d with
 | zero =>
   intro b hb hr hd ha
   by_cases h0 : b = 0
   · subst h0; exact .inl ha.zero_of
   · obtain ⟨u, _, _, _, _, h1, h2⟩ := T.up b hb h0 hr
     omega
 | succ d ih =>
   intro b hb hr hd ha
   by_cases h0 : b = 0
   · subst h0; exact .inl ha.zero_of
   · by_cases e : a = b
     · exact .inl e
     · obtain ⟨u, _, hu, hru, h3, h1, h2⟩ := T.up b hb h0 hr
       rcases ih u hu hru (by omega) ((h3 a e).1 ha) with rfl | h
       · exact .inr (by omega)
       · exact .inr (by omega)
/-- Behind the loop of Above. -/
theorem TreeOk.above_end (T : TreeOk E n idm dep) {a b : Nat} (hb : b < n) (hr : Reach E b) (hd : dep.getD b 0 ≤ dep.getD a 0) : Dm E a b ↔ a = b := by
 constructor
 · intro h
   rcases T.low a _ b hb hr (Nat.le_refl _) h with h | h
   · exact h
   · omega
 · rintro rfl
   exact Dm.refl hr
/-- A round of it. -/
theorem TreeOk.above_step (T : TreeOk E n idm dep) {a b : Nat} (ha : a < n) (hra : Reach E a) (hb : b < n) (hr : Reach E b) (hd : dep.getD a 0 < dep.getD b 0) :
 ∃ u : Nat, idm.getD b 0 = u ∧ u < n ∧ Reach E u ∧ (Dm E a b ↔ Dm E a u) ∧ dep.getD b 0 = dep.getD u 0 + 1 := by
 have h0 : b ≠ 0 := fun e => by
  subst e
  have := T.dep0 ha hra
  rw [(T.root hb).2] at hd
  omega
 obtain ⟨u, h1, h2, h3, h4, h5, _⟩ := T.up b hb h0 hr
 exact ⟨u, h1, h2, h3, h4 a (fun e => by subst e; omega), h5⟩
theorem TreeOk.there (T : TreeOk E n idm dep) {k : Nat} (hk : k < n) (h0 : k ≠ 0) : (idm.getD k 0 ≠ -1) ↔ Reach E k := by
 constructor
 · intro h
   by_cases hr : Reach E k
   · exact hr
   · exact absurd (T.out k hk hr) h
 · intro hr
   obtain ⟨u, h1, _⟩ := T.up k hk h0 hr
   omega
end
end Go.Proofs.YtjjmpfmhggcjiaaGreatDoor
namespace Go.Proofs.YtjjmpfmhggcjiaaGreatDoor
section
variable {P : Program} {ops : Array Oper} {Q : Exit → Act → World → Prop} {md : Region.Mode}
end
end Go.Proofs.YtjjmpfmhggcjiaaGreatDoor
namespace Go.Proofs.YtjjmpfmhggcjiaaGreatDoor
def nats (l : List Nat) : List Int := l.map Int.ofNat
def addE (n : Nat) (acc : List Nat) (k : Int) : List Nat := if 0 ≤ k ∧ k < n ∧ k.toNat ∉ acc then acc ++ [k.toNat] else acc
def cleanRow (n : Nat) (l : List Int) : List Nat := l.foldl (addE n) []
def cleanF (g : List (List Int)) : List (List Nat) := g.map (cleanRow g.length)
section
variable {n : Nat} {g : List (List Int)}
theorem cleanRow_snoc (l : List Int) (k : Int) : cleanRow n (l ++ [k]) = addE n (cleanRow n l) k := by simp [cleanRow, List.foldl_append]
theorem mem_addE {acc : List Nat} {k : Int} {j : Nat} : j ∈ addE n acc k ↔ j ∈ acc ∨ (j < n ∧ (j : Int) = k) := by
 unfold addE
 split
 · rename_i h
   simp only [List.mem_append, List.mem_singleton]
   constructor
   · rintro (h1 | rfl)
     · exact .inl h1
     · exact .inr ⟨by omega, by omega⟩
   · rintro (h1 | ⟨_, h2⟩)
     · exact .inl h1
     · exact .inr (by omega)
 · rename_i h
   constructor
   · exact .inl
   · rintro (h1 | ⟨h2, h3⟩)
     · exact h1
     · subst h3
       by_cases hj : j ∈ acc
       · exact hj
       · exact absurd ⟨by omega, by omega, by simpa using hj⟩ h
theorem mem_cleanRow {l : List Int} {j : Nat} : j ∈ cleanRow n l ↔ j < n ∧ (j : Int) ∈ l := by
 have key : ∀ (l : List Int) (acc : List Nat), j ∈ l.foldl (addE n) acc ↔ j ∈ acc ∨ (j < n ∧ (j : Int) ∈ l) := by
  intro l
  induction l with
  | nil => simp
  | cons k l ih =>
    intro acc
    rw [List.foldl_cons, ih, mem_addE]
    simp only [List.mem_cons]
    constructor
    · rintro ((h | ⟨h1, h2⟩) | ⟨h1, h2⟩)
      · exact .inl h
      · exact .inr ⟨h1, .inl h2⟩
      · exact .inr ⟨h1, .inr h2⟩
    · rintro (h | ⟨h1, h2 | h2⟩)
      · exact .inl (.inl h)
      · exact .inl (.inr ⟨h1, h2⟩)
      · exact .inr ⟨h1, h2⟩
 have := key l []
 simpa [cleanRow] using this
theorem cleanRow_nodup (l : List Int) : (cleanRow n l).Nodup := by
 have key : ∀ (l : List Int) (acc : List Nat), acc.Nodup → (l.foldl (addE n) acc).Nodup := by
  intro l
  induction l with
  | nil => intro acc h; exact h
  | cons k l ih =>
    intro acc h
    rw [List.foldl_cons]
    refine ih _ ?_
    unfold addE
    split
    · rename_i h1
      rw [List.nodup_append]
      exact ⟨h, by simp, fun x hx y hy e => by simp at hy; subst hy e; exact h1.2.2 hx⟩
    · exact h
 exact key l [] List.nodup_nil
theorem cleanRow_len (l : List Int) : (cleanRow n l).length ≤ n := by
 have := nodup_le (cleanRow n l) (List.range n) (cleanRow_nodup l) fun x hx => List.mem_range.2 (mem_cleanRow.1 hx).1
 simpa using this
theorem cleanF_len : (cleanF g).length = g.length := by simp [cleanF]
theorem cleanF_at (p : Nat) : (cleanF g).getD p [] = if p < g.length then cleanRow g.length (g.getD p []) else [] := by
 unfold cleanF
 split
 · rename_i h; simp [h]
 · rename_i h
   rw [List.getD_eq_getElem?_getD, List.getElem?_eq_none (by simp; omega)]
   rfl
theorem eg_clean (p k : Nat) : EG (cleanF g) p k ↔ EI g p k := by
 unfold EG EI
 rw [cleanF_at]
 split
 · rw [mem_cleanRow]
 · rename_i h
   rw [List.getD_eq_getElem?_getD, List.getElem?_eq_none (by omega)]
   simp
/-- Who goes on to k among the first i places, and of place i by its first j edges. -/
def predsTo (c : List (List Nat)) (i j k : Nat) : List Nat := (List.range i).filter (fun p => decide (k ∈ c.getD p [])) ++ (if k ∈ (c.getD i []).take j then [i] else [])
def predsF (c : List (List Nat)) : List (List Nat) := (List.range c.length).map fun k => (List.range c.length).filter (fun p => decide (k ∈ c.getD p []))
variable {c : List (List Nat)}
theorem predsTo_row {i j : Nat} (hj : (c.getD i []).length ≤ j) (k : Nat) : predsTo c i j k = predsTo c (i + 1) 0 k := by
 unfold predsTo
 rw [List.take_of_length_le hj, List.range_succ, List.filter_append]
 generalize hf : (fun p => decide (k ∈ c.getD p [])) = f
 have hfi : f i = decide (k ∈ c.getD i []) := by rw [← hf]
 by_cases h : k ∈ c.getD i []
 · simp only [h, decide_true] at hfi
   rw [if_pos h]
   simp [hfi]
 · simp only [h, decide_false] at hfi
   rw [if_neg h]
   simp [hfi]
theorem predsTo_step {i j q : Nat} (hn : (c.getD i []).Nodup) (hq : (c.getD i [])[j]? = some q) (k : Nat) : predsTo c i (j + 1) k = if k = q then predsTo c i j k ++ [i] else predsTo c i j k := by
 obtain ⟨hj, hjq⟩ := List.getElem?_eq_some_iff.1 hq
 have ht : (c.getD i []).take (j + 1) = (c.getD i []).take j ++ [q] := by rw [List.take_succ_eq_append_getElem hj, hjq]
 have hnot : q ∉ (c.getD i []).take j := fun h => by
  have h2 : ((c.getD i []).take (j + 1)).Nodup := hn.sublist (List.take_sublist _ _)
  rw [ht, List.nodup_append] at h2
  exact h2.2.2 q h q (by simp) rfl
 unfold predsTo
 rw [ht]
 generalize (c.getD i []).take j = l at *
 by_cases e : k = q
 · subst e
   simp [hnot]
 · simp [e]
end
end Go.Proofs.YtjjmpfmhggcjiaaGreatDoor
namespace Go.Proofs.YtjjmpfmhggcjiaaGreatDoor
open Go.Shelf
def lays112_ren : Go.Shelf.Ren := ⟨fun | 112 => 175 | n => n, fun | 28 => 47 | 3 => 3 | 4 => 4 | 0 => 0 | n => n, fun | n => n⟩
theorem lays112 : Go.Proofs.Lays.n112 Tryz.prog lays112_ren := {
 mixed := by kernel_rfl
 f112 := Tryz.func175.trans (congrArg some (by kernel_rfl))
 t0 := Tryz.underlying0
 a0 := Tryz.isAgg0
 z0 := Tryz.sizeOf0
 v0 := Tryz.zeroValue0
 t3 := Tryz.underlying3
 a3 := Tryz.isAgg3
 z3 := Tryz.sizeOf3
 v3 := Tryz.zeroValue3
 t4 := Tryz.underlying4
 a4 := Tryz.isAgg4
 z4 := Tryz.sizeOf4
 v4 := Tryz.zeroValue4
 t28 := Tryz.underlying47
 a28 := Tryz.isAgg47
 z28 := Tryz.sizeOf47
 v28 := Tryz.zeroValue47 }
end Go.Proofs.YtjjmpfmhggcjiaaGreatDoor
namespace Go.Proofs.YtjjmpfmhggcjiaaGreatDoor
/-- A row of integers as who stands right above (-1: nobody yet). -/
def idOf (l : List Int) (k : Nat) : Option Nat := if l.getD k (-1) < 0 then none else some (l.getD k (-1)).toNat
section
variable {l : List Int} {k u : Nat}
theorem idOf_set (h : k < l.length) : idOf (l.set k (u : Int)) = updF (idOf l) k (some u) := by
 funext j
 unfold idOf updF
 by_cases e : j = k
 · subst e
   simp [h]
 · have e' : ¬ k = j := fun h => e h.symm
   simp [e, e']
theorem idOf_some (h : idOf l k = some u) : l.getD k (-1) = u := by
 unfold idOf at h
 split at h
 · cases h
 · cases h; omega
theorem idOf_none (hn : l.getD k (-1) = -1 ∨ 0 ≤ l.getD k (-1)) (h : idOf l k = none) : l.getD k (-1) = -1 := by
 unfold idOf at h
 split at h
 · omega
 · cases h
theorem idOf_lt (h : idOf l k = some u) : k < l.length := by
 by_cases hk : k < l.length
 · exact hk
 · unfold idOf at h
   rw [List.getD_eq_getElem?_getD, List.getElem?_eq_none (by omega)] at h
   simp at h
theorem getD_neg {k : Nat} (hk : k < l.length) : l.getD k (-1) = l.getD k 0 := by simp [hk]
end
section
variable {E : Nat → Nat → Prop} {order : List Nat} {pos tp : Nat → Nat} {n : Nat} {idl : List Int} {r : Nat → Nat} {R m k u : Nat} {ch : Bool}
/-- A new round: the first place is looked at by the way. -/
theorem Inv.bump (I : Inv E order pos tp (idOf idl) r) (R : Nat) : Inv E order pos tp (idOf idl) (updN r 0 R) := by
 refine ⟨I.zero, I.up, I.A, fun x j hj ha hc => ?_⟩
 by_cases e : j = 0
 · subst e
   exact ha.ne hc.zero_eq
 · exact I.B x j hj (by simpa [updN, e] using ha) hc
structure SetR (E : Nat → Nat → Prop) (order : List Nat) (pos tp : Nat → Nat) (n : Nat) (idl : List Int) (r : Nat → Nat) (R m : Nat) (ch : Bool) : Prop where
 len : idl.length = n
 neg : ∀ k, idl.getD k (-1) = -1 ∨ 0 ≤ idl.getD k (-1)
 inv : Inv E order pos tp (idOf idl) r
 bef : ∀ j, j ∈ order → pos j < m → (idOf idl j).isSome = true ∧ R ≤ r j
 aft : 1 ≤ R → ∀ j, j ∈ order → (idOf idl j).isSome = true ∧ R - 1 ≤ r j
 top : ∀ j, (idOf idl j).isSome = true → r j ≤ R
 fix : ch = false → ∀ k, k ∈ order → k ≠ 0 → pos k < m → ∀ u, idOf idl k = some u → ∀ x, Ch (idOf idl) x u → ∀ p, E p k → (idOf idl p).isSome = true → Ch (idOf idl) x p
 few : order.length + 1 ≤ R → ch = false
/-- What the meeting of all that go on to a place is. -/
structure Meets (E : Nat → Nat → Prop) (idl : List Int) (k u : Nat) : Prop where
 is : (idOf idl u).isSome = true
 all : ∀ x, Ch (idOf idl) x u ↔ ∀ p, E p k → (idOf idl p).isSome = true → Ch (idOf idl) x p
theorem SetR.begin0 (hn : 0 < n) (h0 : pos 0 = 0) (O : Ordd E order pos tp) : SetR E order pos tp n ((List.replicate n (-1)).set 0 0) (fun _ => 0) 0 1 false := by
 have hg : ∀ k, ((List.replicate n (-1 : Int)).set 0 0).getD k (-1) = if k = 0 then 0 else -1 := fun k => by
  by_cases e : k = 0
  · subst e; simp [hn]
  · have e' : ¬ 0 = k := fun h => e h.symm
    simp only [List.getD_eq_getElem?_getD, List.getElem?_set_ne e', List.getElem?_replicate, if_neg e]
    split <;> rfl
 have hid : ∀ k, idOf ((List.replicate n (-1 : Int)).set 0 0) k = if k = 0 then some 0 else none := fun k => by
  unfold idOf
  rw [hg]
  by_cases e : k = 0 <;> simp [e]
 have hk0 : ∀ k, (idOf ((List.replicate n (-1 : Int)).set 0 0) k).isSome = true → k = 0 := fun k h => by
  rw [hid] at h
  split at h
  · assumption
  · cases h
 refine ⟨by simp, fun k => by rw [hg]; split <;> omega, ⟨by rw [hid]; simp, fun k u h h1 => ?_, fun x k hd h => ?_, fun x k h ha hc => ?_⟩, fun j hj hp => ?_, by omega, fun _ _ => Nat.le_refl _, fun _ k hk hk0 hp => ?_, by omega⟩
 · rw [hid, if_neg h1] at h; cases h
 · obtain rfl := hk0 k h
   rw [hd.zero_of]
   exact .refl
 · obtain rfl := hk0 k h
   exact ha.ne hc.zero_eq
 · have : j = 0 := O.inj j 0 hj ((O.mem 0).2 .zero) (by omega)
   subst this
   exact ⟨by rw [hid]; rfl, Nat.le_refl _⟩
 · have : k = 0 := O.inj k 0 hk ((O.mem 0).2 .zero) (by omega)
   exact absurd this hk0
theorem SetR.again (S : SetR E order pos tp n idl r R order.length true) (O : Ordd E order pos tp) (h0 : pos 0 = 0) (hpos : ∀ j, j ∈ order → pos j < order.length) : SetR E order pos tp n idl (updN r 0 (R + 1)) (R + 1) 1 false := by
 have hR : R ≤ order.length := by
  by_cases h : order.length + 1 ≤ R
  · cases S.few h
  · omega
 have hz : ∀ j, j ∈ order → pos j < 1 → j = 0 := fun j hj hp => O.inj j 0 hj ((O.mem 0).2 .zero) (by omega)
 refine ⟨S.len, S.neg, S.inv.bump _, fun j hj hp => ?_, fun _ j hj => ?_, fun j hj => ?_, fun _ k hk hk0 hp => absurd (hz k hk hp) hk0, fun _ => rfl⟩
 · obtain rfl := hz j hj hp
   exact ⟨(S.bef 0 hj (by have := hpos 0 hj; omega)).1, by simp [updN]⟩
 · obtain ⟨h1, h2⟩ := S.bef j hj (hpos j hj)
   refine ⟨h1, ?_⟩
   unfold updN
   split <;> omega
 · have := S.top j hj
   unfold updN
   split <;> omega
theorem SetR.same (S : SetR E order pos tp n idl r R m ch) (O : Ordd E order pos tp) (hk : k ∈ order) (hk0 : k ≠ 0) (hm : pos k = m) (hu : idOf idl k = some u) (M : Meets E idl k u) :
 SetR E order pos tp n idl (updN r k R) R (m + 1) ch := by
 have hset : idl.set k (u : Int) = idl := by
  have hl := idOf_lt hu
  have := idOf_some hu
  apply List.ext_getElem?
  intro j
  by_cases e : k = j
  · subst e
    rw [List.getElem?_set_self hl, List.getElem?_eq_getElem hl]
    rw [List.getD_eq_getElem?_getD, List.getElem?_eq_getElem hl] at this
    simp at this
    rw [this]
  · rw [List.getElem?_set_ne e]
 have hI := S.inv.look O hk hk0 (fun j hj hp => S.bef j hj (by omega)) S.aft S.top M.is M.all
 rw [← idOf_set (idOf_lt hu), hset] at hI
 refine ⟨S.len, S.neg, hI, fun j hj hp => ?_, fun h1 j hj => ?_, fun j hj => ?_, fun hc j hj hj0 hp v hv x hx p e hp' => ?_, S.few⟩
 · by_cases e : j = k
   · subst e; exact ⟨by rw [hu]; rfl, by simp [updN]⟩
   · have hne : pos j ≠ m := fun h => e (O.inj j k hj hk (by omega))
     simpa [updN, e] using S.bef j hj (by omega)
 · obtain ⟨h2, h3⟩ := S.aft h1 j hj
   refine ⟨h2, ?_⟩
   unfold updN
   split <;> omega
 · have := S.top j hj
   unfold updN
   split <;> omega
 · by_cases e' : j = k
   · subst e'
     rw [hu] at hv
     cases hv
     exact (M.all x).1 hx p e hp'
   · have hne : pos j ≠ m := fun h => e' (O.inj j k hj hk (by omega))
     exact S.fix hc j hj hj0 (by omega) v hv x hx p e hp'
theorem SetR.turn (S : SetR E order pos tp n idl r R m ch) (O : Ordd E order pos tp) (hk : k ∈ order) (hkn : k < n) (hk0 : k ≠ 0) (hm : pos k = m) (M : Meets E idl k u) (hne : idOf idl k ≠ some u) :
 SetR E order pos tp n (idl.set k (u : Int)) (updN r k R) R (m + 1) true := by
 have hkl : k < idl.length := by rw [S.len]; exact hkn
 have hI := S.inv.look O hk hk0 (fun j hj hp => S.bef j hj (by omega)) S.aft S.top M.is M.all
 have hid := idOf_set (u := u) hkl
 rw [← hid] at hI
 have hsome : ∀ j, (idOf idl j).isSome = true → (idOf (idl.set k (u : Int)) j).isSome = true := fun j h => by
  rw [hid]
  unfold updF
  split
  · rfl
  · exact h
 refine ⟨by simp [S.len], fun j => ?_, hI, fun j hj hp => ?_, fun h1 j hj => ?_, fun j hj => ?_, by simp, fun hR => ?_⟩
 · by_cases e : j = k
   · subst e; simp [hkl]
   · have e' : ¬ k = j := fun h => e h.symm
     have := S.neg j
     simpa [e'] using this
 · by_cases e : j = k
   · subst e; exact ⟨by rw [hid]; simp [updF], by simp [updN]⟩
   · have hne : pos j ≠ m := fun h => e (O.inj j k hj hk (by omega))
     obtain ⟨h1, h2⟩ := S.bef j hj (by omega)
     exact ⟨hsome j h1, by simpa [updN, e] using h2⟩
 · obtain ⟨h2, h3⟩ := S.aft h1 j hj
   refine ⟨hsome j h2, ?_⟩
   unfold updN
   split <;> omega
 · unfold updN
   split
   · exact Nat.le_refl _
   · rename_i e
     refine S.top j ?_
     rw [hid] at hj
     simpa [updF, e] using hj
 · exfalso
   have hall : ∀ j, j ∈ order → (idOf idl j).isSome = true := fun j hj => (S.aft (by omega) j hj).1
   obtain ⟨v, hv⟩ := Option.isSome_iff_exists.1 (hall k hk)
   have hfull := fun x j hj => S.inv.full O hall (fun j hj => by have := (S.aft (by omega) j hj).2; omega) x j hj
   have := S.inv.still O hall hfull hk hk0 hv M.is M.all
   subst this
   exact hne hv
/-- It is done. -/
theorem SetR.fin (S : SetR E order pos tp n idl r R order.length false) (O : Ordd E order pos tp) (hpos : ∀ j, j ∈ order → pos j < order.length) (hk : k ∈ order) (hk0 : k ≠ 0) :
 ∃ u : Nat, idl.getD k (-1) = u ∧ u ∈ order ∧ pos u < pos k ∧ ∀ x, x ≠ k → (Dm E x k ↔ Dm E x u) := by
 have hall : ∀ j, j ∈ order → (idOf idl j).isSome = true := fun j hj => (S.bef j hj (hpos j hj)).1
 have hd := fun x j hj => S.inv.done O hall (fun k u hk hk0 hu => S.fix rfl k hk hk0 (hpos k hk) u hu) x j hj
 obtain ⟨u, hu⟩ := Option.isSome_iff_exists.1 (hall k hk)
 have hus := (S.inv.up k u hu hk0).2.2
 have huo := S.inv.mem O hus
 refine ⟨u, idOf_some hu, huo, S.inv.lt O hu hk0, fun x hx => ?_⟩
 rw [← hd x k hk, ← hd x u huo]
 exact ⟨fun h => h.up_of hx hu, fun h => .up hk0 hu h⟩
/-- Nobody stands above what cannot be reached. -/
theorem SetR.out (S : SetR E order pos tp n idl r R m ch) (O : Ordd E order pos tp) {k : Nat} (hk : k ∉ order) : idl.getD k (-1) = -1 := by
 refine idOf_none (S.neg k) ?_
 cases h : idOf idl k with
 | none => rfl
 | some u => exact absurd (S.inv.mem O (by rw [h]; rfl)) hk
/-- A part of those that go on to a place has met. -/
structure MeetTo (idl : List Int) (P : List Nat) (up : Int) : Prop where
 no : up = -1 → ∀ p, p ∈ P → idOf idl p = none
 yes : up ≠ -1 → ∃ u : Nat, up = u ∧ (idOf idl u).isSome = true ∧ ∀ x, Ch (idOf idl) x u ↔ ∀ p, p ∈ P → (idOf idl p).isSome = true → Ch (idOf idl) x p
theorem MeetTo.start (idl : List Int) : MeetTo idl [] (-1) := ⟨fun _ p hp => (by cases hp), fun h => absurd rfl h⟩
theorem MeetTo.skip {P : List Nat} {up : Int} {p : Nat} (T : MeetTo idl P up) (h : idOf idl p = none) : MeetTo idl (P ++ [p]) up := by
 refine ⟨fun e q hq => ?_, fun e => ?_⟩
 · simp at hq
   rcases hq with hq | rfl
   · exact T.no e q hq
   · exact h
 · obtain ⟨u, h1, h2, h3⟩ := T.yes e
   refine ⟨u, h1, h2, fun x => (h3 x).trans ⟨fun hh q hq hs => ?_, fun hh q hq hs => hh q (by simp [hq]) hs⟩⟩
   simp at hq
   rcases hq with hq | rfl
   · exact hh q hq hs
   · rw [h] at hs; cases hs
theorem MeetTo.first {P : List Nat} {p : Nat} (T : MeetTo idl P (-1)) (h : (idOf idl p).isSome = true) : MeetTo idl (P ++ [p]) (p : Int) := by
 refine ⟨fun e => by omega, fun _ => ⟨p, rfl, h, fun x => ⟨fun hx q hq hs => ?_, fun hh => hh p (by simp) h⟩⟩⟩
 simp at hq
 rcases hq with hq | rfl
 · rw [T.no rfl q hq] at hs; cases hs
 · exact hx
theorem MeetTo.meet {P : List Nat} {a p v : Nat} (T : MeetTo idl P (a : Int)) (h : (idOf idl p).isSome = true) (hv : (idOf idl v).isSome = true) (hm : ∀ x, Ch (idOf idl) x v ↔ Ch (idOf idl) x a ∧ Ch (idOf idl) x p) : MeetTo idl (P ++ [p]) (v : Int) := by
 refine ⟨fun e => by omega, fun _ => ⟨v, rfl, hv, fun x => ?_⟩⟩
 obtain ⟨u, h1, h2, h3⟩ := T.yes (by omega)
 obtain rfl : a = u := by omega
 rw [hm x, h3 x]
 constructor
 · rintro ⟨g1, g2⟩ q hq hs
   simp at hq
   rcases hq with hq | rfl
   · exact g1 q hq hs
   · exact g2
 · intro g
   exact ⟨fun q hq hs => g q (by simp [hq]) hs, g p (by simp) h⟩
theorem MeetTo.all {P : List Nat} {up : Int} (T : MeetTo idl P up) (hP : ∀ p, E p k → (idOf idl p).isSome = true → p ∈ P) (hE : ∀ p, p ∈ P → E p k) {p0 : Nat} (hp0 : E p0 k) (hs0 : (idOf idl p0).isSome = true) : ∃ u : Nat, up = u ∧ Meets E idl k u := by
 have hne : up ≠ -1 := fun e => by
  rw [T.no e p0 (hP p0 hp0 hs0)] at hs0
  cases hs0
 obtain ⟨u, h1, h2, h3⟩ := T.yes hne
 exact ⟨u, h1, h2, fun x => (h3 x).trans ⟨fun g p e hs => g p (hP p e hs) hs, fun g p hp hs => g p (hE p hp) hs⟩⟩
end
end Go.Proofs.YtjjmpfmhggcjiaaGreatDoor
namespace Go.Proofs.YtjjmpfmhggcjiaaGreatDoor
open Go.RowKit Go.Maps
theorem methodF_at {p : Prg} {k : Nat} (hk : k < p.methods.length) : methodF p k = p.methods.getD k default := by
 unfold methodF
 rw [if_pos (by simp [inB]; omega)]
 simp
end Go.Proofs.YtjjmpfmhggcjiaaGreatDoor
