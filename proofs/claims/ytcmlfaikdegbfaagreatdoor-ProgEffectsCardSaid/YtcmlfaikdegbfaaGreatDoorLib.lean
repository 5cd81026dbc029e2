/-
  My own small library, over any program: rows that are read, maps of the call's own keyed by int, blocks known whole. No statement of the seat is proved here.
-/
import Derived.Test.YtcmlfaikdegbfaaGreatDoorRows
import Derived.WalkKit
import Derived.WalkSpells
import Derived.WalkLawsBesides
import Derived.Maps.OwnSet
import Derived.Maps.OwnOps
import Derived.Maps.AppendAt
import Derived.Lib.Hide
import Derived.BigQuiet
import Derived.Deep.QuietTactic
import Derived.Deep.LoopGhost
import Derived.Deep.DeepFit
import Derived.Deep.DeepMust
import Derived.Outline
namespace Go.Proofs.YtcmlfaikdegbfaaGreatDoor
open Go.RowKit Go.Maps

/-! ### rows that are read -/
/-- A slice of n elements, of size cells each, at A, below block B, holds the cells xs. -/
def Rd (w : World) (B size : Nat) (A : Option Addr) (n : Nat) (xs : List Value) : Prop :=
  xs.length = n * size ∧ (0 < n → ∃ b off, A = some ⟨b, off, none⟩ ∧ b < B ∧ ∀ j u, xs[j]? = some u → w.cell? ⟨b, off + j, none⟩ = some u)

section
variable {w w' : World} {B B' size n : Nat} {A : Option Addr} {xs : List Value}
theorem Rd.nil (w : World) (B size : Nat) (A : Option Addr) : Rd w B size A 0 [] := ⟨by simp, fun h => absurd h (by omega)⟩
theorem Rd.keep (h : Rd w B size A n xs) (hk : ∀ p : Addr, p.block < B → w'.cell? p = w.cell? p) : Rd w' B size A n xs :=
  ⟨h.1, fun hn => by
    obtain ⟨b, off, e, hb, hc⟩ := h.2 hn
    exact ⟨b, off, e, hb, fun j u hu => (hk _ hb).trans (hc j u hu)⟩⟩
theorem Rd.more (h : Rd w B size A n xs) (hB : B ≤ B') : Rd w B' size A n xs :=
  ⟨h.1, fun hn => by
    obtain ⟨b, off, e, hb, hc⟩ := h.2 hn
    exact ⟨b, off, e, by omega, hc⟩⟩
theorem Rd.below {C : Nat} (h : Rd w B size A n xs) (hb : Below C w w') (hC : B ≤ C) : Rd w' B size A n xs := h.keep fun _ hp => hb.cell (Nat.lt_of_lt_of_le hp hC)
theorem Rd.alloc (h : Rd w B size A n xs) (hB : B ≤ w.heap.size) (o : Obj) : Rd (w.alloc o) B size A n xs := h.keep fun p hp => World.cell?_alloc_lt w o p (by omega)
theorem Rd.drew (h : Rd w B size A n xs) : Rd w.drew B size A n xs := h
theorem Rd.of_own {base : Nat} {e : TypeId} {v : Value} (h : w.ownsRow base e size v n xs) : ∃ A c, v = .slice A n c ∧ Rd w w.heap.size size A n xs := by
  rcases h.2 with ⟨rfl, rfl⟩ | ⟨g, cap, cur, rfl, _, hh, _⟩
  · exact ⟨none, 0, rfl, h.1, fun h => absurd h (by omega)⟩
  · refine ⟨_, _, rfl, h.1, fun hn => ⟨g, 0, rfl, ?_, fun j u hu => ?_⟩⟩
    · exact (Array.getElem?_eq_some_iff.1 hh).1
    · have := h.cells (g := g) rfl j u hu
      have e1 : (⟨g, 0, none⟩ : Addr).add j = ⟨g, 0 + j, none⟩ := by
        unfold Addr.add
        by_cases hj : j = 0 <;> simp [hj]
      rwa [e1] at this
end

/-! ### a block that is known whole -/
def Blk (w : World) (g : Nat) (t : TypeId) (cs : Array Value) : Prop := w.heap[g]? = some (.cells cs t (0, 0))
section
variable {w w' : World} {g : Nat} {t : TypeId} {cs : Array Value}
theorem Blk.lt (h : Blk w g t cs) : g < w.heap.size := by
  rcases Nat.lt_or_ge g w.heap.size with hlt | hge
  · exact hlt
  · unfold Blk at h; rw [Array.getElem?_eq_none hge] at h; cases h
theorem Blk.cell (h : Blk w g t cs) (i : Nat) : w.cell? ⟨g, i, none⟩ = cs[i]? := cell_of_row w g i cs t (0, 0) h
theorem Blk.frozen (h : Blk w g t cs) (i : Nat) : w.frozen? ⟨g, i, none⟩ = false := frozen_of_row w g i cs t h
theorem Blk.new (w : World) (t : TypeId) (cs : Array Value) : Blk (w.alloc (.cells cs t)) w.heap.size t cs := heap_alloc_new w _
theorem Blk.newAt {w : World} {g : Nat} (hg : w.heap.size = g) (t : TypeId) (cs : Array Value) : Blk (w.alloc (.cells cs t)) g t cs := by subst hg; exact heap_alloc_new w _
theorem Blk.drew (h : Blk w g t cs) : Blk w.drew g t cs := h
theorem Blk.alloc (h : Blk w g t cs) (o : Obj) : Blk (w.alloc o) g t cs := (Below.heap_alloc w o g h.lt).trans h
theorem Blk.set_ (h : Blk w g t cs) (i : Nat) (u : Value) : Blk (w.setCell ⟨g, i, none⟩ u) g t (cs.setIfInBounds i u) := by
  unfold Blk at h ⊢
  simp [World.setCell, Array.getElem?_modify, h]
theorem Blk.far (h : Blk w g t cs) {p : Addr} (hp : g ≠ p.block) (u : Value) : Blk (w.setCell p u) g t cs := (Below.heap_setCell w p u g hp).trans h
theorem Blk.below {B : Nat} (h : Blk w g t cs) (hb : Below B w w') (hg : g < B) : Blk w' g t cs := (hb.block g hg).trans h
theorem Blk.grown {row : Option Nat} (h : Blk w g t cs) (hb : w.grownBy w' row) (hg : some g ≠ row) : Blk w' g t cs := (hb.block g h.lt hg).trans h
theorem Blk.ne_ {g' : Nat} {t' : TypeId} {cs' : Array Value} (h : Blk w g t cs) (h' : Blk w g' t' cs') (hne : t ≠ t') : g ≠ g' := by
  rintro rfl
  unfold Blk at h h'
  rw [h] at h'
  injection h' with h'
  injection h' with _ ht
  exact hne ht
theorem Blk.own_ne {base : Nat} {e : TypeId} {size n : Nat} {v : Value} {xs : List Value} (hg : Blk w g t cs) (h : w.ownsRow base e size v n xs) (hne : e ≠ t) : v.ownBlock ≠ some g := by
  rcases h.2 with ⟨rfl, _⟩ | ⟨g', cap, cur, rfl, _, hh, _⟩
  · simp [Value.ownBlock]
  · intro he
    have : g' = g := by simpa [Value.ownBlock] using he
    subst this
    exact Blk.ne_ (t := e) hh hg hne rfl
end

theorem Blk.rd {w : World} {g : Nat} {t : TypeId} {xs : List Value} (h : Blk w g t ⟨xs⟩) {B size n : Nat} (hl : xs.length = n * size) (hB : g < B) : Rd w B size (some ⟨g, 0, none⟩) n xs :=
  ⟨hl, fun _ => ⟨g, 0, rfl, hB, fun j u hu => by rw [Nat.zero_add, h.cell]; simpa using hu⟩⟩
/-- What a walk reads of a block known whole. -/
theorem Blk.at0 {w : World} {g : Nat} {t : TypeId} {x : Value} {cs : List Value} (h : Blk w g t ⟨x :: cs⟩) : w.cell? ⟨g, 0, none⟩ = some x := h.cell 0
theorem Blk.at1 {w : World} {g : Nat} {t : TypeId} {x y : Value} {cs : List Value} (h : Blk w g t ⟨x :: y :: cs⟩) : w.cell? ⟨g, 1, none⟩ = some y := h.cell 1
theorem Blk.at2 {w : World} {g : Nat} {t : TypeId} {x y z : Value} {cs : List Value} (h : Blk w g t ⟨x :: y :: z :: cs⟩) : w.cell? ⟨g, 2, none⟩ = some z := h.cell 2
theorem Blk.at3 {w : World} {g : Nat} {t : TypeId} {x y z u : Value} {cs : List Value} (h : Blk w g t ⟨x :: y :: z :: u :: cs⟩) : w.cell? ⟨g, 3, none⟩ = some u := h.cell 3
theorem bcell {W w1 : World} (hb : Below W.heap.size W w1) : (∀ b o, b < W.heap.size → w1.cell? ⟨b, o, none⟩ = W.cell? ⟨b, o, none⟩) ∧ (∀ b o, b < W.heap.size → w1.frozen? ⟨b, o, none⟩ = W.frozen? ⟨b, o, none⟩) :=
  ⟨fun b o h => hb.cell (p := ⟨b, o, none⟩) h, fun b o h => hb.frozen (p := ⟨b, o, none⟩) h⟩
theorem below_drewN {B : Nat} {a w : World} (h : Below B a w) (n : Nat) : Below B a (w.drewN n) := ⟨h.os, h.tape, h.output, h.size, h.block⟩
theorem Rd.drewN {w : World} {B size n : Nat} {A : Option Addr} {xs : List Value} (h : Rd w B size A n xs) (k : Nat) : Rd (w.drewN k) B size A n xs := h

/-! ### maps of the call's own, keyed by int -/
/-- How an α lies as an element of a map whose element type is e. -/
structure Elt (P : Program) (e : TypeId) (α : Type) where
  val : α → Value
  lit : α → Lit
  ok : α → Prop
  zero : α
  okz : ok zero
  mkOf : ∀ a, ok a → plainElem (H := Unit) P e (val a) = some (.lit (lit a), [])
  inv : ∀ v z, plainElem (H := Unit) P e v = some z → ∃ a, v = val a ∧ z = (.lit (lit a), []) ∧ ok a
  inj : ∀ a b, lit a = lit b → a = b
  hz : ∀ w, (zeroValue e).run P w = .ok (val zero) w

def wf64 (n : Int) : Prop := (Lit.int .i64 n).wf = true
theorem wf64_of {n : Int} (h : -9223372036854775808 ≤ n ∧ n ≤ 9223372036854775807) : wf64 n := WalkArith.wf_i64 (by omega)
theorem of_wf64 {n : Int} (h : wf64 n) : -9223372036854775808 ≤ n ∧ n ≤ 9223372036854775807 := by
  unfold wf64 at h
  simp [Lit.wf, IntKind.min, IntKind.max, IntKind.signed, IntKind.bits] at h
  omega

def intElt {P : Program} {e : TypeId} (he : P.underlying e = some (.int .i64)) (hz : ∀ w, (zeroValue e).run P w = .ok (.int .i64 0) w) : Elt P e Int where
  val := .int .i64
  lit := .int .i64
  ok := wf64
  zero := 0
  okz := wf64_of (by omega)
  mkOf := fun _ h => plainElem_int he h
  inv := fun v z h => by
    obtain ⟨a, rfl, rfl, hw⟩ := plainElem_int_inv he h
    exact ⟨a, rfl, rfl, hw⟩
  inj := fun a b h => by injection h
  hz := hz

def boolElt {P : Program} {e : TypeId} (he : P.underlying e = some .bool) (hz : ∀ w, (zeroValue e).run P w = .ok (.bool false) w) : Elt P e Bool where
  val := .bool
  lit := .bool
  ok := fun _ => True
  zero := false
  okz := trivial
  mkOf := fun a _ => plainElem_bool he a
  inv := fun v z h => by
    unfold plainElem at h
    rw [he] at h
    cases v <;> simp at h
    exact ⟨_, rfl, h.symm, trivial⟩
  inj := fun a b h => by injection h
  hz := hz

/-- Block b is a map of at most n entries, keyed by int, that holds just f. -/
def IMap {P : Program} {e : TypeId} {α : Type} (w : World) (k : TypeId) (E : Elt P e α) (b n : Nat) (f : Int → Option α) : Prop :=
  ∃ D : DataW Unit, w.ownsMap P k (plainElem P e) b n D ∧ ∀ x, wf64 x → Maps.has D (.int .i64 x) = (f x).isSome ∧ ∀ a, f x = some a → E.ok a ∧ ∀ z, D.atKey (.int .i64 x) z = .lit (E.lit a)

theorem wpList_on {P : Program} {ops : Array Oper} {Q : Exit → Act → World → Prop} {rest : List Oper} {o : Oper} {a : Act} {w : World} (hw : Region.wanted o (yielded ops a.tmps) = true)
    (h : ∀ K : Act → World → Prop, (∀ a w, wpList P ops Q rest a w → K a w) → o.wp P a w K Q) : wpList P ops Q (o :: rest) a w :=
  wpList_step fun K hK => by rw [if_pos hw]; exact h K hK

section
variable {P : Program} {e k t : TypeId} {α : Type} {E : Elt P e α} {w w' : World} {b n : Nat} {f : Int → Option α}
theorem IMap.congr (h : IMap w k E b n f) {g : Int → Option α} (hg : ∀ x, wf64 x → f x = g x) : IMap w k E b n g := by
  obtain ⟨D, h1, h2⟩ := h
  exact ⟨D, h1, fun x hx => by rw [← hg x hx]; exact h2 x hx⟩
theorem IMap.mono (h : IMap w k E b n f) {m : Nat} (hm : n ≤ m) : IMap w k E b m f := by
  obtain ⟨D, h1, h2⟩ := h
  exact ⟨D, h1.mono hm, h2⟩
theorem IMap.lt (h : IMap w k E b n f) : b < w.heap.size := let ⟨_, h1, _⟩ := h; h1.lt
theorem IMap.kept {row : Option Nat} (h : IMap w k E b n f) (hg : w.grownBy w' row) (hne : some b ≠ row) : IMap w' k E b n f := by
  obtain ⟨D, h1, h2⟩ := h
  exact ⟨D, h1.kept hg hne, h2⟩
theorem IMap.alloc (h : IMap w k E b n f) (o : Obj) : IMap (w.alloc o) k E b n f := h.kept (World.grownBy_alloc w o none) (by simp)
theorem IMap.drew (h : IMap w k E b n f) : IMap w.drew k E b n f := h
theorem IMap.below {B : Nat} (h : IMap w k E b n f) (hb : Below B w w') (hB : b < B) : IMap w' k E b n f := by
  obtain ⟨D, ⟨es, clock, h0, F, hs, hD⟩, h2⟩ := h
  exact ⟨D, ⟨es, clock, (hb.block b hB).trans h0, F, hs, hD⟩, h2⟩
theorem IMap.setCell (h : IMap w k E b n f) {p : Addr} (hp : b ≠ p.block) (u : Value) : IMap (w.setCell p u) k E b n f := by
  obtain ⟨D, h1, h2⟩ := h
  exact ⟨D, h1.setCell hp u, h2⟩
theorem IMap.ne_blk (h : IMap w k E b n f) {g : Nat} {u : TypeId} {cs : Array Value} (hg : Blk w g u cs) : b ≠ g := by
  rintro rfl
  obtain ⟨D, ⟨es, clock, h0, _⟩, _⟩ := h
  unfold Blk at hg
  rw [h0] at hg
  cases hg
theorem IMap.made (w : World) (k : TypeId) (E : Elt P e α) : IMap (w.alloc (.map #[] 0)) k E w.heap.size 0 (fun _ => none) :=
  ⟨.map [], World.ownsMap_made _ _ _ _, fun x _ => ⟨rfl, fun a h => by cases h⟩⟩

theorem IMap.madeAt {w : World} (hg : w.heap.size = b) (k : TypeId) (E : Elt P e α) : IMap (w.alloc (.map #[] 0)) k E b 0 (fun _ => none) := by subst hg; exact IMap.made w k E
theorem IMap.look (h : IMap w k E b n f) (hk : P.underlying k = some (.int .i64)) (ht : P.underlying t = some (.map k e)) {x : Int} (hx : wf64 x) :
    (Instr.lookup t (.map (some b)) (.int .i64 x) false).run P w = .ok (E.val ((f x).getD E.zero)) w := by
  obtain ⟨D, h1, h2⟩ := h
  obtain ⟨v, ps, hrun, hv⟩ := h1.lookup (int_keyed hk) ht (E.hz w) (E.mkOf _ E.okz) (keyOf_int_mk hk hx)
  obtain ⟨a, rfl, hz, _⟩ := E.inv _ _ hv
  rw [hrun]
  have hz1 : D.atKey (.int .i64 x) (.lit (E.lit E.zero)) = .lit (E.lit a) := congrArg Prod.fst hz
  obtain ⟨g1, g2⟩ := h2 x hx
  cases hf : f x with
  | none =>
    rw [hf] at g1
    rw [atKey_of_not_has (by simpa using g1)] at hz1
    have : E.zero = a := E.inj _ _ (by injection hz1)
    simp [this]
  | some c =>
    rw [(g2 c hf).2] at hz1
    have : c = a := E.inj _ _ (by injection hz1)
    simp [this]

theorem IMap.look_ok (h : IMap w k E b n f) (hk : P.underlying k = some (.int .i64)) (ht : P.underlying t = some (.map k e)) {x : Int} (hx : wf64 x) :
    (Instr.lookup t (.map (some b)) (.int .i64 x) true).run P w = .ok (.tuple #[E.val ((f x).getD E.zero), .bool (f x).isSome]) w := by
  obtain ⟨D, h1, h2⟩ := h
  obtain ⟨v, ps, hrun, hv⟩ := h1.look_ok (int_keyed hk) ht (E.hz w) (E.mkOf _ E.okz) (keyOf_int_mk hk hx)
  obtain ⟨a, rfl, hz, _⟩ := E.inv _ _ hv
  rw [hrun]
  have hz1 : D.atKey (.int .i64 x) (.lit (E.lit E.zero)) = .lit (E.lit a) := congrArg Prod.fst hz
  obtain ⟨g1, g2⟩ := h2 x hx
  rw [g1]
  cases hf : f x with
  | none =>
    rw [hf] at g1
    rw [atKey_of_not_has (by simpa using g1)] at hz1
    have : E.zero = a := E.inj _ _ (by injection hz1)
    simp [this]
  | some c =>
    rw [(g2 c hf).2] at hz1
    have : c = a := E.inj _ _ (by injection hz1)
    simp [this]

def fput (f : Int → Option α) (x : Int) (a : α) : Int → Option α := fun y => if y = x then some a else f y
def fdel (f : Int → Option α) (x : Int) : Int → Option α := fun y => if y = x then none else f y

theorem IMap.upd (h : IMap w k E b n f) (hk : P.underlying k = some (.int .i64)) (ht : P.underlying t = some (.map k e)) (hn : n < maxLen) {x : Int} (hx : wf64 x) {a : α} (ha : E.ok a) :
    ∃ w', (Instr.mapUpdate t (.map (some b)) (.int .i64 x) (E.val a)).run P w = .ok () w' ∧ IMap w' k E b (n + 1) (fput f x a) ∧ w.grownBy w' (some b) := by
  obtain ⟨D, h1, h2⟩ := h
  obtain ⟨w', hrun, g1, g2⟩ := h1.update (int_keyed hk) ht hn (keyOf_int_mk hk hx) (E.mkOf a ha)
  refine ⟨w', hrun, ⟨_, g1, fun y hy => ?_⟩, g2⟩
  have hkey : WideAt.IsKeyLit (.int .i64 x) := by simp [WideAt.IsKeyLit]
  by_cases e : y = x
  · subst e
    simp only [fput, if_true]
    refine ⟨by rw [has_put_same h1.isMap hkey]; rfl, fun a' ha' => ?_⟩
    injection ha' with ha'
    subst ha'
    exact ⟨ha, fun z => atKey_put_same h1.isMap hkey _ _⟩
  · have hne : (Lit.int .i64 y) ≠ (Lit.int .i64 x) := fun h => e (by injection h)
    simp only [fput, if_neg e]
    exact ⟨by rw [has_put_other hne]; exact (h2 y hy).1, fun a' ha' => ⟨((h2 y hy).2 a' ha').1, fun z => by rw [atKey_put_other hne]; exact ((h2 y hy).2 a' ha').2 z⟩⟩

theorem IMap.del (h : IMap w k E b n f) (hk : P.underlying k = some (.int .i64)) (ht : P.underlying t = some (.map k e)) {x : Int} (hx : wf64 x) (ty : TypeId) :
    ∃ w', (Builtin.delete_ #[t, k] ty #[.map (some b), .int .i64 x]).run P w = .ok (.tuple #[]) w' ∧ IMap w' k E b n (fdel f x) ∧ w.grownBy w' (some b) := by
  obtain ⟨D, h1, h2⟩ := h
  obtain ⟨w', hrun, g1, g2⟩ := h1.drop (int_keyed hk) ht (keyOf_int_mk hk hx) ty
  refine ⟨w', hrun, ⟨_, g1, fun y hy => ?_⟩, g2.grown⟩
  by_cases e : y = x
  · subst e
    simp only [fdel, if_true]
    exact ⟨by rw [has_del_same]; rfl, fun a' ha' => by cases ha'⟩
  · have hne : (Lit.int .i64 y) ≠ (Lit.int .i64 x) := fun h => e (by injection h)
    simp only [fdel, if_neg e]
    exact ⟨by rw [has_del_other hne]; exact (h2 y hy).1, fun a' ha' => ⟨((h2 y hy).2 a' ha').1, fun z => by rw [atKey_del_other hne]; exact ((h2 y hy).2 a' ha').2 z⟩⟩
end

/-! ### at the operation -/
section
variable {P : Program} {e k : TypeId} {α : Type} {E : Elt P e α} {w : World} {b n : Nat} {f : Int → Option α} {ops : Array Oper} {rest : List Oper} {o : Oper} {a : Act} {Q : Exit → Act → World → Prop}
theorem wpList_ilook (hw : Region.wanted o (yielded ops a.tmps) = true) (m x : Operand) (t : TypeId) (hop : o.op = Op.lookup t m x false) (hk : P.underlying k = some (.int .i64)) (ht : P.underlying t = some (.map k e))
    (H : IMap w k E b n f) (hm : a.eval m = .map (some b)) (y : Int) (hx : a.eval x = .int .i64 y) (hy : wf64 y) (v : Value) (hv : E.val ((f y).getD E.zero) = v) (hK : wpList P ops Q rest (a.put o.dst v) w) : wpList P ops Q (o :: rest) a w := by
  subst hv
  refine wpList_on hw fun K' hK' => ?_
  unfold Oper.wp
  simp [execOp, hop, hm, hx, H.look hk ht hy, Result.andThen]
  exact hK' _ _ hK
theorem wpList_ilook_ok (hw : Region.wanted o (yielded ops a.tmps) = true) (m x : Operand) (t : TypeId) (hop : o.op = Op.lookup t m x true) (hk : P.underlying k = some (.int .i64)) (ht : P.underlying t = some (.map k e))
    (H : IMap w k E b n f) (hm : a.eval m = .map (some b)) (y : Int) (hx : a.eval x = .int .i64 y) (hy : wf64 y) (v : Value) (hv : E.val ((f y).getD E.zero) = v) (s : Bool) (hs : (f y).isSome = s) (hK : wpList P ops Q rest (a.put o.dst (.tuple #[v, .bool s])) w) : wpList P ops Q (o :: rest) a w := by
  subst hv hs
  refine wpList_on hw fun K' hK' => ?_
  unfold Oper.wp
  simp [execOp, hop, hm, hx, H.look_ok hk ht hy, Result.andThen]
  exact hK' _ _ hK
theorem wpList_iupd (hw : Region.wanted o (yielded ops a.tmps) = true) (m x v : Operand) (t : TypeId) (hop : o.op = Op.mapUpdate t m x v) (hk : P.underlying k = some (.int .i64)) (ht : P.underlying t = some (.map k e))
    (H : IMap w k E b n f) (hn : n < maxLen) (hm : a.eval m = .map (some b)) (y : Int) (hx : a.eval x = .int .i64 y) (hy : wf64 y) (c : α) (hv : a.eval v = E.val c) (hc : E.ok c)
    (hK : ∀ w', IMap w' k E b (n + 1) (fput f y c) → w.grownBy w' (some b) → wpList P ops Q rest (a.put o.dst undef) w') : wpList P ops Q (o :: rest) a w := by
  refine wpList_on hw fun K' hK' => ?_
  obtain ⟨w', hrun, r1, r2⟩ := H.upd hk ht hn hy hc
  unfold Oper.wp
  simp [execOp, hop, hm, hx, hv, hrun, Result.andThen]
  exact hK' _ _ (hK w' r1 r2)
theorem wpList_idel (hw : Region.wanted o (yielded ops a.tmps) = true) (m x : Operand) (t : TypeId) (hop : o.op = Op.call { callee := Callee.builtin Builtin.delete, args := #[m, x], argTypes := #[t, k] })
    (hk : P.underlying k = some (.int .i64)) (ht : P.underlying t = some (.map k e)) (H : IMap w k E b n f) (hm : a.eval m = .map (some b)) (y : Int) (hx : a.eval x = .int .i64 y) (hy : wf64 y)
    (hK : ∀ w', IMap w' k E b n (fdel f y) → w.grownBy w' (some b) → wpList P ops Q rest (a.put o.dst (.tuple #[])) w') : wpList P ops Q (o :: rest) a w := by
  refine wpList_on hw fun K' hK' => ?_
  obtain ⟨w', hrun, r1, r2⟩ := H.del hk ht hy o.type
  unfold Oper.wp
  simp [execOp, hop, resolve, invoke, builtin, hm, hx, hrun, Result.andThen]
  exact hK' _ _ (hK w' r1 r2)
end


theorem grown_setCell (w : World) (p : Addr) (u : Value) : w.grownBy (w.setCell p u) (some p.block) :=
  ⟨rfl, rfl, rfl, by simp [World.setCell], fun k _ hne => Below.heap_setCell _ _ _ _ (fun e => hne (by rw [e]))⟩
/-! ### append onto a row of the call's own -/
theorem own_slice {w : World} {base : Nat} {e : TypeId} {size n : Nat} {v : Value} {xs : List Value} (h : w.ownsRow base e size v n xs) : ∃ A c, v = .slice A n c := by
  rcases h.2 with ⟨rfl, rfl⟩ | ⟨g, cap, cur, rfl, _⟩
  · exact ⟨none, 0, rfl⟩
  · exact ⟨_, _, rfl⟩
theorem IMap.own_ne {P : Program} {e k : TypeId} {α : Type} {E : Elt P e α} {w : World} {b n : Nat} {f : Int → Option α} (h : IMap w k E b n f) {base : Nat} {e' : TypeId} {size n' : Nat} {v : Value} {xs : List Value} (ho : w.ownsRow base e' size v n' xs) : some b ≠ v.ownBlock := by
  rcases ho.2 with ⟨rfl, _⟩ | ⟨g', cap, cur, rfl, _, hh, _⟩
  · simp [Value.ownBlock]
  · intro he
    have : b = g' := by simpa [Value.ownBlock] using he
    exact h.ne_blk (g := g') hh this
theorem wpList_append_row {P : Program} {w : World} {ops : Array Oper} {rest : List Oper} {o : Oper} {a : Act} {Q : Exit → Act → World → Prop} (hw : Region.wanted o (yielded ops a.tmps) = true) (s x : Operand) (t : TypeId)
    (ho : o.op = .call { callee := .builtin .append, args := #[s, x], argTypes := #[t, t] })
    (base : Nat) (e : TypeId) (z : Value) (size bytes : Nat) (ht : P.underlying t = some (.slice e)) (hinfo : (P.info? e).map (fun i => (i.zero, i.size, i.bytes)) = some (some z, size, bytes)) (hzs : z.cells.size = size) (hsz : 0 < size)
    (A : Option Addr) (c n : Nat) (xs : List Value) (hs : a.eval s = .slice A n c) (hown : w.ownsRow base e size (.slice A n c) n xs)
    (g m c2 : Nat) (tt : TypeId) (news : List Value) (hx : a.eval x = .slice (some ⟨g, 0, none⟩) m c2) (hg : Blk w g tt ⟨news⟩) (hl : news.length = m * size) (h1 : ∀ u ∈ news, u.oneCell' = true)
    (h63 : n + m ≤ maxLen) (hbytes : (n + m) * bytes ≤ 140737488355328) (hbase : base ≤ w.heap.size)
    (h : ∀ A' c' w', w'.ownsRow base e size (.slice A' (n + m) c') (n + m) (xs ++ news) → w.grownBy w' (Value.slice A n c).ownBlock → ((Value.slice A' (n + m) c').ownBlock = (Value.slice A n c).ownBlock ∨ (Value.slice A' (n + m) c').ownBlock = some w.heap.size) → wpList P ops Q rest (a.put o.dst (.slice A' (n + m) c')) w') :
    wpList P ops Q (o :: rest) a w := by
  refine wpList_on hw fun K hK => ?_
  obtain ⟨i, hi, hz, hsize, hby⟩ := info_parts hinfo
  obtain ⟨v', w', hr, h2, h3, h4, h5⟩ := run_append_own_at (P := P) w base t o.type e i z size bytes ht hi hz hsize hby hzs hsz (.slice A n c) n xs hown ⟨g, 0, none⟩ m c2 news hl (fun j u hj => by
    have e1 : (⟨g, 0, none⟩ : Addr).add j = ⟨g, j, none⟩ := by
      unfold Addr.add
      by_cases hj : j = 0 <;> simp [hj]
    rw [e1, hg.cell]
    simpa using hj) h1 h63 hbytes hbase
  obtain ⟨A', c', rfl⟩ := own_slice h2
  unfold Oper.wp execOp
  simp only [ho, resolve, invoke, builtin, Sem.run_bind, Sem.run_pure, Result.andThen_ok, List.map_toArray, List.map_cons, List.map_nil, hs, hx, hr]
  exact hK _ _ (h A' c' w' h2 h3 h5)

end Go.Proofs.YtcmlfaikdegbfaaGreatDoor
