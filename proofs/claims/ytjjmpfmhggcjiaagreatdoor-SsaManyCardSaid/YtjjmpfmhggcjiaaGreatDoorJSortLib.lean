/-
 Lib, SortLib.
-/
import Derived.Test.YtjjmpfmhggcjiaaGreatDoorRows
import Derived.WalkKit
import Derived.WalkSpells
import Derived.WalkLawsBesides
import Derived.Maps.OwnSet
import Derived.Maps.OwnOps
import Derived.Maps.AppendAt
import Derived.Lib.Hide
import Derived.BigQuiet
import Derived.Deep.QuietTactic
import Derived.Deep.LoopGhost
import Derived.Deep.DeepFit
import Derived.Deep.DeepMust
import Derived.Outline
import Derived.Deep.AppendLies
import Derived.RegionTactic
set_option linter.unusedSimpArgs false
set_option linter.unusedVariables false
namespace Go.Proofs.YtjjmpfmhggcjiaaGreatDoor
open Go.RowKit Go.Maps
/-! ### rows that are read -/
/-- A slice of n elements, of size cells each, at A, below block B, holds the cells xs. -/
def Rd (w : World) (B size : Nat) (A : Option Addr) (n : Nat) (xs : List Value) : Prop :=
 xs.length = n * size ∧ (0 < n → ∃ b off, A = some ⟨b, off, none⟩ ∧ b < B ∧ ∀ j u, xs[j]? = some u → w.cell? ⟨b, off + j, none⟩ = some u)
section
variable {w w' : World} {B B' size n : Nat} {A : Option Addr} {xs : List Value}
theorem Rd.nil (w : World) (B size : Nat) (A : Option Addr) : Rd w B size A 0 [] := ⟨by simp, fun h => absurd h (by omega)⟩
theorem Rd.keep (h : Rd w B size A n xs) (hk : ∀ p : Addr, p.block < B → w'.cell? p = w.cell? p) : Rd w' B size A n xs :=
 ⟨h.1, fun hn => by
  obtain ⟨b, off, e, hb, hc⟩ := h.2 hn
  exact ⟨b, off, e, hb, fun j u hu => (hk _ hb).trans (hc j u hu)⟩⟩
theorem Rd.more (h : Rd w B size A n xs) (hB : B ≤ B') : Rd w B' size A n xs :=
 ⟨h.1, fun hn => by
  obtain ⟨b, off, e, hb, hc⟩ := h.2 hn
  exact ⟨b, off, e, by omega, hc⟩⟩
theorem Rd.below {C : Nat} (h : Rd w B size A n xs) (hb : Below C w w') (hC : B ≤ C) : Rd w' B size A n xs := h.keep fun _ hp => hb.cell (Nat.lt_of_lt_of_le hp hC)
theorem Rd.alloc (h : Rd w B size A n xs) (hB : B ≤ w.heap.size) (o : Obj) : Rd (w.alloc o) B size A n xs := h.keep fun p hp => World.cell?_alloc_lt w o p (by omega)
theorem Rd.drew (h : Rd w B size A n xs) : Rd w.drew B size A n xs := h
theorem Rd.of_own {base : Nat} {e : TypeId} {v : Value} (h : w.ownsRow base e size v n xs) : ∃ A c, v = .slice A n c ∧ Rd w w.heap.size size A n xs := by
 rcases h.2 with ⟨rfl, rfl⟩ | ⟨g, cap, cur, rfl, _, hh, _⟩
 · exact ⟨none, 0, rfl, h.1, fun h => absurd h (by omega)⟩
 · refine ⟨_, _, rfl, h.1, fun hn => ⟨g, 0, rfl, ?_, fun j u hu => ?_⟩⟩
   · exact (Array.getElem?_eq_some_iff.1 hh).1
   · have := h.cells (g := g) rfl j u hu
     have e1 : (⟨g, 0, none⟩ : Addr).add j = ⟨g, 0 + j, none⟩ := by
      unfold Addr.add
      by_cases hj : j = 0 <;> simp [hj]
     rwa [e1] at this
end
/-! ### a block that is known whole -/
def Blk (w : World) (g : Nat) (t : TypeId) (cs : Array Value) : Prop := w.heap[g]? = some (.cells cs t (0, 0))
section
variable {w w' : World} {g : Nat} {t : TypeId} {cs : Array Value}
theorem Blk.lt (h : Blk w g t cs) : g < w.heap.size := by
 rcases Nat.lt_or_ge g w.heap.size with hlt | hge
 · exact hlt
 · unfold Blk at h; rw [Array.getElem?_eq_none hge] at h; cases h
theorem Blk.cell (h : Blk w g t cs) (i : Nat) : w.cell? ⟨g, i, none⟩ = cs[i]? := cell_of_row w g i cs t (0, 0) h
theorem Blk.frozen (h : Blk w g t cs) (i : Nat) : w.frozen? ⟨g, i, none⟩ = false := frozen_of_row w g i cs t h
theorem Blk.new (w : World) (t : TypeId) (cs : Array Value) : Blk (w.alloc (.cells cs t)) w.heap.size t cs := heap_alloc_new w _
theorem Blk.newAt {w : World} {g : Nat} (hg : w.heap.size = g) (t : TypeId) (cs : Array Value) : Blk (w.alloc (.cells cs t)) g t cs := by subst hg; exact heap_alloc_new w _
theorem Blk.drew (h : Blk w g t cs) : Blk w.drew g t cs := h
theorem Blk.alloc (h : Blk w g t cs) (o : Obj) : Blk (w.alloc o) g t cs := (Below.heap_alloc w o g h.lt).trans h
theorem Blk.set_ (h : Blk w g t cs) (i : Nat) (u : Value) : Blk (w.setCell ⟨g, i, none⟩ u) g t (cs.setIfInBounds i u) := by
 unfold Blk at h ⊢
 simp [World.setCell, Array.getElem?_modify, h]
theorem Blk.far (h : Blk w g t cs) {p : Addr} (hp : g ≠ p.block) (u : Value) : Blk (w.setCell p u) g t cs := (Below.heap_setCell w p u g hp).trans h
theorem Blk.below {B : Nat} (h : Blk w g t cs) (hb : Below B w w') (hg : g < B) : Blk w' g t cs := (hb.block g hg).trans h
theorem Blk.grown {row : Option Nat} (h : Blk w g t cs) (hb : w.grownBy w' row) (hg : some g ≠ row) : Blk w' g t cs := (hb.block g h.lt hg).trans h
theorem Blk.ne_ {g' : Nat} {t' : TypeId} {cs' : Array Value} (h : Blk w g t cs) (h' : Blk w g' t' cs') (hne : t ≠ t') : g ≠ g' := by
 rintro rfl
 unfold Blk at h h'
 rw [h] at h'
 injection h' with h'
 injection h' with _ ht
 exact hne ht
end
theorem Blk.rd {w : World} {g : Nat} {t : TypeId} {xs : List Value} (h : Blk w g t ⟨xs⟩) {B size n : Nat} (hl : xs.length = n * size) (hB : g < B) : Rd w B size (some ⟨g, 0, none⟩) n xs :=
 ⟨hl, fun _ => ⟨g, 0, rfl, hB, fun j u hu => by rw [Nat.zero_add, h.cell]; simpa using hu⟩⟩
/-- What a walk reads of a block known whole. -/
theorem Blk.at0 {w : World} {g : Nat} {t : TypeId} {x : Value} {cs : List Value} (h : Blk w g t ⟨x :: cs⟩) : w.cell? ⟨g, 0, none⟩ = some x := h.cell 0
theorem Blk.at1 {w : World} {g : Nat} {t : TypeId} {x y : Value} {cs : List Value} (h : Blk w g t ⟨x :: y :: cs⟩) : w.cell? ⟨g, 1, none⟩ = some y := h.cell 1
theorem Blk.at2 {w : World} {g : Nat} {t : TypeId} {x y z : Value} {cs : List Value} (h : Blk w g t ⟨x :: y :: z :: cs⟩) : w.cell? ⟨g, 2, none⟩ = some z := h.cell 2
theorem Blk.at3 {w : World} {g : Nat} {t : TypeId} {x y z u : Value} {cs : List Value} (h : Blk w g t ⟨x :: y :: z :: u :: cs⟩) : w.cell? ⟨g, 3, none⟩ = some u := h.cell 3
theorem bcell {W w1 : World} (hb : Below W.heap.size W w1) : (∀ b o, b < W.heap.size → w1.cell? ⟨b, o, none⟩ = W.cell? ⟨b, o, none⟩) ∧ (∀ b o, b < W.heap.size → w1.frozen? ⟨b, o, none⟩ = W.frozen? ⟨b, o, none⟩) :=
 ⟨fun b o h => hb.cell (p := ⟨b, o, none⟩) h, fun b o h => hb.frozen (p := ⟨b, o, none⟩) h⟩
theorem below_drewN {B : Nat} {a w : World} (h : Below B a w) (n : Nat) : Below B a (w.drewN n) := ⟨h.os, h.tape, h.output, h.size, h.block⟩
theorem Rd.drewN {w : World} {B size n : Nat} {A : Option Addr} {xs : List Value} (h : Rd w B size A n xs) (k : Nat) : Rd (w.drewN k) B size A n xs := h
/-! ### maps of the call's own, keyed by int -/
/-- How an α lies as an element of a map whose element type is e. -/
structure Elt (P : Program) (e : TypeId) (α : Type) where
 val : α → Value
 lit : α → Lit
 ok : α → Prop
 zero : α
 okz : ok zero
 mkOf : ∀ a, ok a → plainElem (H := Unit) P e (val a) = some (.lit (lit a), [])
 inv : ∀ v z, plainElem (H := Unit) P e v = some z → ∃ a, v = val a ∧ z = (.lit (lit a), []) ∧ ok a
 inj : ∀ a b, lit a = lit b → a = b
 hz : ∀ w, (zeroValue e).run P w = .ok (val zero) w
def wf64 (n : Int) : Prop := (Lit.int .i64 n).wf = true
theorem of_wf64 {n : Int} (h : wf64 n) : -9223372036854775808 ≤ n ∧ n ≤ 9223372036854775807 := by
 unfold wf64 at h
 simp [Lit.wf, IntKind.min, IntKind.max, IntKind.signed, IntKind.bits] at h
 omega
theorem wpList_on {P : Program} {ops : Array Oper} {Q : Exit → Act → World → Prop} {rest : List Oper} {o : Oper} {a : Act} {w : World} (hw : Region.wanted o (yielded ops a.tmps) = true)
 (h : ∀ K : Act → World → Prop, (∀ a w, wpList P ops Q rest a w → K a w) → o.wp P a w K Q) : wpList P ops Q (o :: rest) a w :=
 wpList_step fun K hK => by rw [if_pos hw]; exact h K hK
section
variable {P : Program} {e k t : TypeId} {α : Type} {E : Elt P e α} {w w' : World} {b n : Nat} {f : Int → Option α}
end
/-! ### at the operation -/
section
variable {P : Program} {e k : TypeId} {α : Type} {E : Elt P e α} {w : World} {b n : Nat} {f : Int → Option α} {ops : Array Oper} {rest : List Oper} {o : Oper} {a : Act} {Q : Exit → Act → World → Prop}
end
theorem grown_setCell (w : World) (p : Addr) (u : Value) : w.grownBy (w.setCell p u) (some p.block) :=
 ⟨rfl, rfl, rfl, by simp [World.setCell], fun k _ hne => Below.heap_setCell _ _ _ _ (fun e => hne (by rw [e]))⟩
/-! ### append onto a row of the call's own -/
theorem own_slice {w : World} {base : Nat} {e : TypeId} {size n : Nat} {v : Value} {xs : List Value} (h : w.ownsRow base e size v n xs) : ∃ A c, v = .slice A n c := by
 rcases h.2 with ⟨rfl, rfl⟩ | ⟨g, cap, cur, rfl, _⟩
 · exact ⟨none, 0, rfl⟩
 · exact ⟨_, _, rfl⟩
theorem wpList_append_row {P : Program} {w : World} {ops : Array Oper} {rest : List Oper} {o : Oper} {a : Act} {Q : Exit → Act → World → Prop} (hw : Region.wanted o (yielded ops a.tmps) = true) (s x : Operand) (t : TypeId)
 (ho : o.op = .call { callee := .builtin .append, args := #[s, x], argTypes := #[t, t] })
 (base : Nat) (e : TypeId) (z : Value) (size bytes : Nat) (ht : P.underlying t = some (.slice e)) (hinfo : (P.info? e).map (fun i => (i.zero, i.size, i.bytes)) = some (some z, size, bytes)) (hzs : z.cells.size = size) (hsz : 0 < size)
 (A : Option Addr) (c n : Nat) (xs : List Value) (hs : a.eval s = .slice A n c) (hown : w.ownsRow base e size (.slice A n c) n xs)
 (g m c2 : Nat) (tt : TypeId) (news : List Value) (hx : a.eval x = .slice (some ⟨g, 0, none⟩) m c2) (hg : Blk w g tt ⟨news⟩) (hl : news.length = m * size) (h1 : ∀ u ∈ news, u.oneCell' = true)
 (h63 : n + m ≤ maxLen) (hbytes : (n + m) * bytes ≤ 140737488355328) (hbase : base ≤ w.heap.size)
 (h : ∀ A' c' w', w'.ownsRow base e size (.slice A' (n + m) c') (n + m) (xs ++ news) → w.grownBy w' (Value.slice A n c).ownBlock → ((Value.slice A' (n + m) c').ownBlock = (Value.slice A n c).ownBlock ∨ (Value.slice A' (n + m) c').ownBlock = some w.heap.size) → wpList P ops Q rest (a.put o.dst (.slice A' (n + m) c')) w') :
 wpList P ops Q (o :: rest) a w := by
 refine wpList_on hw fun K hK => ?_
 obtain ⟨i, hi, hz, hsize, hby⟩ := info_parts hinfo
 obtain ⟨v', w', hr, h2, h3, h4, h5⟩ := run_append_own_at (P := P) w base t o.type e i z size bytes ht hi hz hsize hby hzs hsz (.slice A n c) n xs hown ⟨g, 0, none⟩ m c2 news hl (fun j u hj => by
  have e1 : (⟨g, 0, none⟩ : Addr).add j = ⟨g, j, none⟩ := by
   unfold Addr.add
   by_cases hj : j = 0 <;> simp [hj]
  rw [e1, hg.cell]
  simpa using hj) h1 h63 hbytes hbase
 obtain ⟨A', c', rfl⟩ := own_slice h2
 unfold Oper.wp execOp
 simp only [ho, resolve, invoke, builtin, Sem.run_bind, Sem.run_pure, Result.andThen_ok, List.map_toArray, List.map_cons, List.map_nil, hs, hx, hr]
 exact hK _ _ (h A' c' w' h2 h3 h5)
end Go.Proofs.YtjjmpfmhggcjiaaGreatDoor
namespace Go.Proofs.YtjjmpfmhggcjiaaGreatDoor
open Go.RowKit Go.Maps
theorem Rd.cell_add {w : World} {B m : Nat} {ad : Addr} {xs : List Value} (h : Rd w B 1 (some ad) m xs) : ∀ j u, xs[j]? = some u → w.cell? (ad.add j) = some u := fun j u hu => by
 have hj : j < xs.length := (List.getElem?_eq_some_iff.1 hu).1
 have hl := h.1
 obtain ⟨b, off, e, _, hc⟩ := h.2 (by omega)
 injection e with e
 subst e
 rw [Go.WideShapes.add_plain]
 exact hc j u hu
theorem run_append_rd {P : Program} (w : World) (base : Nat) (t ty e : TypeId) (i : TypeInfo) (z : Value) (bytes : Nat) (ht : P.underlying t = some (.slice e)) (hi : P.info? e = some i) (hz : i.zero = some z) (hs : i.size = 1) (hby : i.bytes = bytes) (hzs : z.cells.size = 1)
 (v : Value) (n : Nat) (xs : List Value) (hown : w.ownsRow base e 1 v n xs) (B : Nat) (A : Option Addr) (m c : Nat) (news : List Value) (hr : Rd w B 1 A m news) (h1 : ∀ u ∈ news, u.oneCell' = true)
 (h63 : n + m ≤ maxLen) (hbytes : (n + m) * bytes ≤ 140737488355328) (hbase : base ≤ w.heap.size) :
 ∃ A' c' w', (Builtin.append_ #[t, t] ty #[v, .slice A m c]).run P w = .ok (.slice A' (n + m) c') w' ∧ w'.ownsRow base e 1 (.slice A' (n + m) c') (n + m) (xs ++ news) ∧ w.grownBy w' v.ownBlock := by
 cases A with
 | none =>
   have hm : m = 0 := by
    rcases Nat.eq_zero_or_pos m with h0 | h0
    · exact h0
    · obtain ⟨b, off, h, _⟩ := hr.2 h0
      cases h
   subst hm
   have hn : news = [] := List.eq_nil_of_length_eq_zero (by simpa using hr.1)
   subst hn
   obtain ⟨A', c', rfl⟩ := own_slice hown
   refine ⟨A', c', w, ?_, by simpa using hown, ⟨rfl, rfl, rfl, Nat.le_refl _, fun _ _ _ => rfl⟩⟩
   rcases hown.2 with ⟨h0, h00⟩ | ⟨g, cap, cur, hv, _, _, hnc, _⟩
   · cases h0
     simp [Builtin.append_, run_underlying ht, sizeOf, typeInfo, hi, Builtin.lenOf, Builtin.firstCells]
   · cases hv
     simp [Builtin.append_, run_underlying ht, sizeOf, typeInfo, hi, Builtin.lenOf, Builtin.firstCells, hnc, storeCells]
 | some ad =>
   obtain ⟨v', w', hrun, h2, h3, _, _⟩ := run_append_own_at (P := P) w base t ty e i z 1 bytes ht hi hz hs hby hzs (by omega) v n xs hown ad m c news (by simpa using hr.1) hr.cell_add h1 h63 hbytes hbase
   obtain ⟨A', c', rfl⟩ := own_slice h2
   exact ⟨A', c', w', hrun, h2, h3⟩
section
variable {P : Program} {w : World} {ops : Array Oper} {o : Oper} {a : Act} {Q : Exit → Act → World → Prop}
theorem wp_append_rd {K : Act → World → Prop} (s x : Operand) (t : TypeId) (ho : o.op = .call { callee := .builtin .append, args := #[s, x], argTypes := #[t, t] })
 (base : Nat) (e : TypeId) (i : TypeInfo) (z : Value) (bytes : Nat) (ht : P.underlying t = some (.slice e)) (hi : P.info? e = some i) (hz : i.zero = some z) (hs1 : i.size = 1) (hby : i.bytes = bytes) (hzs : z.cells.size = 1)
 (v : Value) (n : Nat) (xs : List Value) (hs : a.eval s = v) (hown : w.ownsRow base e 1 v n xs) (B : Nat) (A : Option Addr) (m c : Nat) (news : List Value) (hx : a.eval x = .slice A m c) (hr : Rd w B 1 A m news) (h1 : ∀ u ∈ news, u.oneCell' = true)
 (h63 : n + m ≤ maxLen) (hbytes : (n + m) * bytes ≤ 140737488355328) (hbase : base ≤ w.heap.size)
 (h : ∀ A' c' w', w'.ownsRow base e 1 (.slice A' (n + m) c') (n + m) (xs ++ news) → w.grownBy w' v.ownBlock → K (a.put o.dst (.slice A' (n + m) c')) w') : o.wp P a w K Q := by
 obtain ⟨A', c', w', hrun, h2, h3⟩ := run_append_rd (P := P) w base t o.type e i z bytes ht hi hz hs1 hby hzs v n xs hown B A m c news hr h1 h63 hbytes hbase
 unfold Oper.wp execOp
 simp only [ho, resolve, invoke, builtin, Sem.run_bind, Sem.run_pure, Result.andThen_ok, List.map_toArray, List.map_cons, List.map_nil, hs, hx, hrun]
 exact h A' c' w' h2 h3
theorem wpList_append_rd {rest : List Oper} (hw : Region.wanted o (yielded ops a.tmps) = true) (s x : Operand) (t : TypeId) (ho : o.op = .call { callee := .builtin .append, args := #[s, x], argTypes := #[t, t] })
 (base : Nat) (e : TypeId) (i : TypeInfo) (z : Value) (bytes : Nat) (ht : P.underlying t = some (.slice e)) (hi : P.info? e = some i) (hz : i.zero = some z) (hs1 : i.size = 1) (hby : i.bytes = bytes) (hzs : z.cells.size = 1)
 (v : Value) (n : Nat) (xs : List Value) (hs : a.eval s = v) (hown : w.ownsRow base e 1 v n xs) (B : Nat) (A : Option Addr) (m c : Nat) (news : List Value) (hx : a.eval x = .slice A m c) (hr : Rd w B 1 A m news) (h1 : ∀ u ∈ news, u.oneCell' = true)
 (h63 : n + m ≤ maxLen) (hbytes : (n + m) * bytes ≤ 140737488355328) (hbase : base ≤ w.heap.size)
 (h : ∀ A' c' w', w'.ownsRow base e 1 (.slice A' (n + m) c') (n + m) (xs ++ news) → w.grownBy w' v.ownBlock → wpList P ops Q rest (a.put o.dst (.slice A' (n + m) c')) w') : wpList P ops Q (o :: rest) a w :=
 wpList_on hw fun _ hK => wp_append_rd s x t ho base e i z bytes ht hi hz hs1 hby hzs v n xs hs hown B A m c news hx hr h1 h63 hbytes hbase fun A' c' w' h2 h3 => hK _ _ (h A' c' w' h2 h3)
theorem step_append_rd {K : Act → World → Prop} {E : Prop} (hgd : o.guard = none) (s x : Operand) (t : TypeId) (ho : o.op = .call { callee := .builtin .append, args := #[s, x], argTypes := #[t, t] })
 (base : Nat) (e : TypeId) (i : TypeInfo) (z : Value) (bytes : Nat) (ht : P.underlying t = some (.slice e)) (hi : P.info? e = some i) (hz : i.zero = some z) (hs1 : i.size = 1) (hby : i.bytes = bytes) (hzs : z.cells.size = 1)
 (v : Value) (n : Nat) (xs : List Value) (hs : a.eval s = v) (hown : w.ownsRow base e 1 v n xs) (B : Nat) (A : Option Addr) (m c : Nat) (news : List Value) (hx : a.eval x = .slice A m c) (hr : Rd w B 1 A m news) (h1 : ∀ u ∈ news, u.oneCell' = true)
 (h63 : n + m ≤ maxLen) (hbytes : (n + m) * bytes ≤ 140737488355328) (hbase : base ≤ w.heap.size)
 (h : ∀ A' c' w', w'.ownsRow base e 1 (.slice A' (n + m) c') (n + m) (xs ++ news) → w.grownBy w' v.ownBlock → K (a.put o.dst (.slice A' (n + m) c')) w') :
 if Region.wanted o (yielded ops a.tmps) = true then Oper.wp P o a w K Q else E := by
 have hw : Region.wanted o (yielded ops a.tmps) = true := by simp [Region.wanted, hgd]
 rw [if_pos hw]
 exact wp_append_rd s x t ho base e i z bytes ht hi hz hs1 hby hzs v n xs hs hown B A m c news hx hr h1 h63 hbytes hbase h
end
/-! ### sorting by insertion -/
/-- Where x stands, or would stand. -/
def posS (out : List Int) (x : Int) : Nat := (out.takeWhile (· < x)).length
def insS (out : List Int) (x : Int) : List Int := if out[posS out x]? = some x then out else out.take (posS out x) ++ [x] ++ out.drop (posS out x)
def sortS (l : List Int) : List Int := l.foldl insS []
theorem posS_le (out : List Int) (x : Int) : posS out x ≤ out.length := (List.takeWhile_prefix _).length_le
theorem posS_at : ∀ {out : List Int} {x : Int} {k : Nat}, k ≤ out.length → (∀ j, j < k → out[j]?.getD 0 < x) → (k = out.length ∨ ¬ out[k]?.getD 0 < x) → posS out x = k
 | [], x, k, hk, _, _ => by simp at hk; subst hk; rfl
 | y :: out, x, 0, _, _, h => by
   simp at h
   unfold posS
   rw [List.takeWhile_cons, if_neg (by simpa using h)]
   rfl
 | y :: out, x, k + 1, hk, hj, h => by
   have h0 := hj 0 (by omega)
   simp at h0
   unfold posS
   rw [List.takeWhile_cons, if_pos (by simpa using h0), List.length_cons]
   congr 1
   exact posS_at (by simpa using hk) (fun j hjk => by simpa using hj (j + 1) (by omega)) (by simpa using h)
theorem insS_len (out : List Int) (x : Int) : (insS out x).length ≤ out.length + 1 := by
 have := posS_le out x
 unfold insS
 split
 · omega
 · simp; omega
theorem sortS_snoc (l : List Int) (x : Int) : sortS (l ++ [x]) = insS (sortS l) x := by simp [sortS]
theorem sortS_len (l : List Int) : (sortS l).length ≤ l.length := by
 suffices h : ∀ (l : List Int) (acc : List Int), (l.foldl insS acc).length ≤ acc.length + l.length by simpa [sortS] using h l []
 intro l
 induction l with
 | nil => intro acc; simp
 | cons x l ih =>
   intro acc
   have h1 := ih (insS acc x)
   have h2 := insS_len acc x
   simp only [List.foldl_cons, List.length_cons]
   omega
end Go.Proofs.YtjjmpfmhggcjiaaGreatDoor
