/-
 Lib, See1, See2, SortLib.
-/
import Derived.Test.YtjjmpfmhggcjiaaGreatDoorRows
import Derived.WalkKit
import Derived.WalkSpells
import Derived.WalkLawsBesides
import Derived.Maps.OwnSet
import Derived.Maps.OwnOps
import Derived.Maps.AppendAt
import Derived.Lib.Hide
import Derived.BigQuiet
import Derived.Deep.QuietTactic
import Derived.Deep.LoopGhost
import Derived.Deep.DeepFit
import Derived.Deep.DeepMust
import Derived.Outline
import Derived.LaidEql
import Derived.Deep.AppendLies
import Derived.RegionTactic
set_option linter.unusedSimpArgs false
set_option linter.unusedVariables false
namespace Go.Proofs.YtjjmpfmhggcjiaaGreatDoor
open Go.RowKit Go.Maps
/-! ### rows that are read -/
/-- A slice of n elements, of size cells each, at A, below block B, holds the cells xs. -/
def Rd (w : World) (B size : Nat) (A : Option Addr) (n : Nat) (xs : List Value) : Prop :=
 xs.length = n * size ∧ (0 < n → ∃ b off, A = some ⟨b, off, none⟩ ∧ b < B ∧ ∀ j u, xs[j]? = some u → w.cell? ⟨b, off + j, none⟩ = some u)
section
variable {w w' : World} {B B' size n : Nat} {A : Option Addr} {xs : List Value}
theorem Rd.nil (w : World) (B size : Nat) (A : Option Addr) : Rd w B size A 0 [] := ⟨by simp, fun h => absurd h (by omega)⟩
theorem Rd.keep (h : Rd w B size A n xs) (hk : ∀ p : Addr, p.block < B → w'.cell? p = w.cell? p) : Rd w' B size A n xs :=
 ⟨h.1, fun hn => by
  obtain ⟨b, off, e, hb, hc⟩ := h.2 hn
  exact ⟨b, off, e, hb, fun j u hu => (hk _ hb).trans (hc j u hu)⟩⟩
theorem Rd.more (h : Rd w B size A n xs) (hB : B ≤ B') : Rd w B' size A n xs :=
 ⟨h.1, fun hn => by
  obtain ⟨b, off, e, hb, hc⟩ := h.2 hn
  exact ⟨b, off, e, by omega, hc⟩⟩
theorem Rd.below {C : Nat} (h : Rd w B size A n xs) (hb : Below C w w') (hC : B ≤ C) : Rd w' B size A n xs := h.keep fun _ hp => hb.cell (Nat.lt_of_lt_of_le hp hC)
theorem Rd.alloc (h : Rd w B size A n xs) (hB : B ≤ w.heap.size) (o : Obj) : Rd (w.alloc o) B size A n xs := h.keep fun p hp => World.cell?_alloc_lt w o p (by omega)
theorem Rd.of_own {base : Nat} {e : TypeId} {v : Value} (h : w.ownsRow base e size v n xs) : ∃ A c, v = .slice A n c ∧ Rd w w.heap.size size A n xs := by
 rcases h.2 with ⟨rfl, rfl⟩ | ⟨g, cap, cur, rfl, _, hh, _⟩
 · exact ⟨none, 0, rfl, h.1, fun h => absurd h (by omega)⟩
 · refine ⟨_, _, rfl, h.1, fun hn => ⟨g, 0, rfl, ?_, fun j u hu => ?_⟩⟩
   · exact (Array.getElem?_eq_some_iff.1 hh).1
   · have := h.cells (g := g) rfl j u hu
     have e1 : (⟨g, 0, none⟩ : Addr).add j = ⟨g, 0 + j, none⟩ := by
      unfold Addr.add
      by_cases hj : j = 0 <;> simp [hj]
     rwa [e1] at this
end
/-! ### a block that is known whole -/
def Blk (w : World) (g : Nat) (t : TypeId) (cs : Array Value) : Prop := w.heap[g]? = some (.cells cs t (0, 0))
section
variable {w w' : World} {g : Nat} {t : TypeId} {cs : Array Value}
theorem Blk.lt (h : Blk w g t cs) : g < w.heap.size := by
 rcases Nat.lt_or_ge g w.heap.size with hlt | hge
 · exact hlt
 · unfold Blk at h; rw [Array.getElem?_eq_none hge] at h; cases h
theorem Blk.cell (h : Blk w g t cs) (i : Nat) : w.cell? ⟨g, i, none⟩ = cs[i]? := cell_of_row w g i cs t (0, 0) h
theorem Blk.frozen (h : Blk w g t cs) (i : Nat) : w.frozen? ⟨g, i, none⟩ = false := frozen_of_row w g i cs t h
theorem Blk.new (w : World) (t : TypeId) (cs : Array Value) : Blk (w.alloc (.cells cs t)) w.heap.size t cs := heap_alloc_new w _
theorem Blk.newAt {w : World} {g : Nat} (hg : w.heap.size = g) (t : TypeId) (cs : Array Value) : Blk (w.alloc (.cells cs t)) g t cs := by subst hg; exact heap_alloc_new w _
theorem Blk.drew (h : Blk w g t cs) : Blk w.drew g t cs := h
theorem Blk.alloc (h : Blk w g t cs) (o : Obj) : Blk (w.alloc o) g t cs := (Below.heap_alloc w o g h.lt).trans h
theorem Blk.set_ (h : Blk w g t cs) (i : Nat) (u : Value) : Blk (w.setCell ⟨g, i, none⟩ u) g t (cs.setIfInBounds i u) := by
 unfold Blk at h ⊢
 simp [World.setCell, Array.getElem?_modify, h]
theorem Blk.far (h : Blk w g t cs) {p : Addr} (hp : g ≠ p.block) (u : Value) : Blk (w.setCell p u) g t cs := (Below.heap_setCell w p u g hp).trans h
theorem Blk.below {B : Nat} (h : Blk w g t cs) (hb : Below B w w') (hg : g < B) : Blk w' g t cs := (hb.block g hg).trans h
theorem Blk.grown {row : Option Nat} (h : Blk w g t cs) (hb : w.grownBy w' row) (hg : some g ≠ row) : Blk w' g t cs := (hb.block g h.lt hg).trans h
theorem Blk.ne_ {g' : Nat} {t' : TypeId} {cs' : Array Value} (h : Blk w g t cs) (h' : Blk w g' t' cs') (hne : t ≠ t') : g ≠ g' := by
 rintro rfl
 unfold Blk at h h'
 rw [h] at h'
 injection h' with h'
 injection h' with _ ht
 exact hne ht
end
theorem Blk.rd {w : World} {g : Nat} {t : TypeId} {xs : List Value} (h : Blk w g t ⟨xs⟩) {B size n : Nat} (hl : xs.length = n * size) (hB : g < B) : Rd w B size (some ⟨g, 0, none⟩) n xs :=
 ⟨hl, fun _ => ⟨g, 0, rfl, hB, fun j u hu => by rw [Nat.zero_add, h.cell]; simpa using hu⟩⟩
/-- What a walk reads of a block known whole. -/
theorem Blk.at0 {w : World} {g : Nat} {t : TypeId} {x : Value} {cs : List Value} (h : Blk w g t ⟨x :: cs⟩) : w.cell? ⟨g, 0, none⟩ = some x := h.cell 0
theorem Blk.at1 {w : World} {g : Nat} {t : TypeId} {x y : Value} {cs : List Value} (h : Blk w g t ⟨x :: y :: cs⟩) : w.cell? ⟨g, 1, none⟩ = some y := h.cell 1
theorem Blk.at2 {w : World} {g : Nat} {t : TypeId} {x y z : Value} {cs : List Value} (h : Blk w g t ⟨x :: y :: z :: cs⟩) : w.cell? ⟨g, 2, none⟩ = some z := h.cell 2
theorem Blk.at3 {w : World} {g : Nat} {t : TypeId} {x y z u : Value} {cs : List Value} (h : Blk w g t ⟨x :: y :: z :: u :: cs⟩) : w.cell? ⟨g, 3, none⟩ = some u := h.cell 3
theorem bcell {W w1 : World} (hb : Below W.heap.size W w1) : (∀ b o, b < W.heap.size → w1.cell? ⟨b, o, none⟩ = W.cell? ⟨b, o, none⟩) ∧ (∀ b o, b < W.heap.size → w1.frozen? ⟨b, o, none⟩ = W.frozen? ⟨b, o, none⟩) :=
 ⟨fun b o h => hb.cell (p := ⟨b, o, none⟩) h, fun b o h => hb.frozen (p := ⟨b, o, none⟩) h⟩
theorem below_drewN {B : Nat} {a w : World} (h : Below B a w) (n : Nat) : Below B a (w.drewN n) := ⟨h.os, h.tape, h.output, h.size, h.block⟩
theorem Rd.drewN {w : World} {B size n : Nat} {A : Option Addr} {xs : List Value} (h : Rd w B size A n xs) (k : Nat) : Rd (w.drewN k) B size A n xs := h
/-! ### maps of the call's own, keyed by int -/
/-- How an α lies as an element of a map whose element type is e. -/
structure Elt (P : Program) (e : TypeId) (α : Type) where
 val : α → Value
 lit : α → Lit
 ok : α → Prop
 zero : α
 okz : ok zero
 mkOf : ∀ a, ok a → plainElem (H := Unit) P e (val a) = some (.lit (lit a), [])
 inv : ∀ v z, plainElem (H := Unit) P e v = some z → ∃ a, v = val a ∧ z = (.lit (lit a), []) ∧ ok a
 inj : ∀ a b, lit a = lit b → a = b
 hz : ∀ w, (zeroValue e).run P w = .ok (val zero) w
def wf64 (n : Int) : Prop := (Lit.int .i64 n).wf = true
theorem of_wf64 {n : Int} (h : wf64 n) : -9223372036854775808 ≤ n ∧ n ≤ 9223372036854775807 := by
 unfold wf64 at h
 simp [Lit.wf, IntKind.min, IntKind.max, IntKind.signed, IntKind.bits] at h
 omega
theorem wpList_on {P : Program} {ops : Array Oper} {Q : Exit → Act → World → Prop} {rest : List Oper} {o : Oper} {a : Act} {w : World} (hw : Region.wanted o (yielded ops a.tmps) = true)
 (h : ∀ K : Act → World → Prop, (∀ a w, wpList P ops Q rest a w → K a w) → o.wp P a w K Q) : wpList P ops Q (o :: rest) a w :=
 wpList_step fun K hK => by rw [if_pos hw]; exact h K hK
section
variable {P : Program} {e k t : TypeId} {α : Type} {E : Elt P e α} {w w' : World} {b n : Nat} {f : Int → Option α}
end
/-! ### at the operation -/
section
variable {P : Program} {e k : TypeId} {α : Type} {E : Elt P e α} {w : World} {b n : Nat} {f : Int → Option α} {ops : Array Oper} {rest : List Oper} {o : Oper} {a : Act} {Q : Exit → Act → World → Prop}
end
theorem grown_setCell (w : World) (p : Addr) (u : Value) : w.grownBy (w.setCell p u) (some p.block) :=
 ⟨rfl, rfl, rfl, by simp [World.setCell], fun k _ hne => Below.heap_setCell _ _ _ _ (fun e => hne (by rw [e]))⟩
/-! ### append onto a row of the call's own -/
theorem own_slice {w : World} {base : Nat} {e : TypeId} {size n : Nat} {v : Value} {xs : List Value} (h : w.ownsRow base e size v n xs) : ∃ A c, v = .slice A n c := by
 rcases h.2 with ⟨rfl, rfl⟩ | ⟨g, cap, cur, rfl, _⟩
 · exact ⟨none, 0, rfl⟩
 · exact ⟨_, _, rfl⟩
theorem wpList_append_row {P : Program} {w : World} {ops : Array Oper} {rest : List Oper} {o : Oper} {a : Act} {Q : Exit → Act → World → Prop} (hw : Region.wanted o (yielded ops a.tmps) = true) (s x : Operand) (t : TypeId)
 (ho : o.op = .call { callee := .builtin .append, args := #[s, x], argTypes := #[t, t] })
 (base : Nat) (e : TypeId) (z : Value) (size bytes : Nat) (ht : P.underlying t = some (.slice e)) (hinfo : (P.info? e).map (fun i => (i.zero, i.size, i.bytes)) = some (some z, size, bytes)) (hzs : z.cells.size = size) (hsz : 0 < size)
 (A : Option Addr) (c n : Nat) (xs : List Value) (hs : a.eval s = .slice A n c) (hown : w.ownsRow base e size (.slice A n c) n xs)
 (g m c2 : Nat) (tt : TypeId) (news : List Value) (hx : a.eval x = .slice (some ⟨g, 0, none⟩) m c2) (hg : Blk w g tt ⟨news⟩) (hl : news.length = m * size) (h1 : ∀ u ∈ news, u.oneCell' = true)
 (h63 : n + m ≤ maxLen) (hbytes : (n + m) * bytes ≤ 140737488355328) (hbase : base ≤ w.heap.size)
 (h : ∀ A' c' w', w'.ownsRow base e size (.slice A' (n + m) c') (n + m) (xs ++ news) → w.grownBy w' (Value.slice A n c).ownBlock → ((Value.slice A' (n + m) c').ownBlock = (Value.slice A n c).ownBlock ∨ (Value.slice A' (n + m) c').ownBlock = some w.heap.size) → wpList P ops Q rest (a.put o.dst (.slice A' (n + m) c')) w') :
 wpList P ops Q (o :: rest) a w := by
 refine wpList_on hw fun K hK => ?_
 obtain ⟨i, hi, hz, hsize, hby⟩ := info_parts hinfo
 obtain ⟨v', w', hr, h2, h3, h4, h5⟩ := run_append_own_at (P := P) w base t o.type e i z size bytes ht hi hz hsize hby hzs hsz (.slice A n c) n xs hown ⟨g, 0, none⟩ m c2 news hl (fun j u hj => by
  have e1 : (⟨g, 0, none⟩ : Addr).add j = ⟨g, j, none⟩ := by
   unfold Addr.add
   by_cases hj : j = 0 <;> simp [hj]
  rw [e1, hg.cell]
  simpa using hj) h1 h63 hbytes hbase
 obtain ⟨A', c', rfl⟩ := own_slice h2
 unfold Oper.wp execOp
 simp only [ho, resolve, invoke, builtin, Sem.run_bind, Sem.run_pure, Result.andThen_ok, List.map_toArray, List.map_cons, List.map_nil, hs, hx, hr]
 exact hK _ _ (h A' c' w' h2 h3 h5)
end Go.Proofs.YtjjmpfmhggcjiaaGreatDoor
namespace Go.Proofs.YtjjmpfmhggcjiaaGreatDoor
open Go.RowKit Go.Maps
theorem ret_bool {a b : Bool} (h : a = b) : Ending.returned (.bool a) = .returned (.bool b) := by rw [h]
set_option maxHeartbeats 400000 in
theorem bare_any (c : Int) (w : World) :
 Calls Tryz.prog 39 #[.int .i64 c] w fun e w' => e = .returned (.agg #[.int .i64 c, .slice none 0 0]) ∧ Below w.heap.size w w' := by
 go_enter Tryz.func39, Tryz.ntmps39
 go_wp2
 exact bodyPost_ret (v := .agg #[.int .i64 c, .slice none 0 0]) (by simp [results, Tryz.results39, go_sem]) rfl ⟨rfl, (Below.refl _ _).alloc (Nat.le_refl _) _⟩
set_option maxHeartbeats 400000 in
theorem none_any (w : World) :
 Calls Tryz.prog 112 #[] w fun e w' => e = .returned (.agg #[.int .i64 0, .slice none 0 0]) ∧ Below w.heap.size w w' := by
 go_enter Tryz.func112, Tryz.ntmps112
 go_wp2
 exact bodyPost_ret (v := .agg #[.int .i64 0, .slice none 0 0]) (by simp [results, Tryz.results112, go_sem]) rfl ⟨rfl, (Below.refl _ _).alloc (Nat.le_refl _) _⟩
/-- The cells of a row of ints. -/
def ints (l : List Int) : List Value := l.map (Value.int .i64)
theorem ints_at {w : World} {B n : Nat} {A : Option Addr} {l : List Int} (h : Rd w B 1 A n (ints l)) {k : Nat} (hk : k < n) : ∃ b off, A = some ⟨b, off, none⟩ ∧ b < B ∧ w.cell? ⟨b, off + k, none⟩ = some (.int .i64 (l[k]?.getD 0)) := by
 obtain ⟨b, off, e, hb, hc⟩ := h.2 (by omega)
 have hl : l.length = n := by have := h.1; simpa [ints] using this
 refine ⟨b, off, e, hb, hc k _ ?_⟩
 simp [ints, List.getElem?_eq_getElem (show k < l.length by omega)]
theorem take_next {l1 l2 : List Int} {k : Nat} (h1 : k < l1.length) (h2 : k < l2.length) (h : l1.take k = l2.take k) (e : (!l1[k]?.getD 0 == l2[k]?.getD 0) = false) : l1.take (k + 1) = l2.take (k + 1) := by
 have : l1[k]?.getD 0 = l2[k]?.getD 0 := by simpa using e
 rw [List.take_succ_eq_append_getElem h1, List.take_succ_eq_append_getElem h2, h]
 simp only [List.getElem?_eq_getElem h1, List.getElem?_eq_getElem h2, Option.getD_some] at this
 rw [this]
theorem not_next {l1 l2 : List Int} {k : Nat} (e : (!l1[k]?.getD 0 == l2[k]?.getD 0) = true) : false = decide (l1 = l2) := by
 symm
 rw [decide_eq_false_iff_not]
 rintro rfl
 simp at e
set_option maxHeartbeats 400000 in
theorem sameInts_any (A1 A2 : Option Addr) (n1 n2 c1 c2 : Nat) (l1 l2 : List Int) (w : World) (hn1 : n1 ≤ 9223372036854775807) (h1 : Rd w w.heap.size 1 A1 n1 (ints l1)) (h2 : Rd w w.heap.size 1 A2 n2 (ints l2)) :
 Calls Tryz.prog 15 #[.slice A1 n1 c1, .slice A2 n2 c2] w fun e w' => e = .returned (.bool (decide (l1 = l2))) ∧ Below w.heap.size w w' := by
 have hl1 : l1.length = n1 := by have := h1.1; simpa [ints] using this
 have hl2 : l2.length = n2 := by have := h2.1; simpa [ints] using this
 by_cases hne : n1 = n2
 · subst hne
   have Hl1 := Lib.hid hl1
   have Hl2 := Lib.hid hl2
   clear hl1 hl2
   go_enter Tryz.func15, Tryz.ntmps15
   go_wp2
   go_loopw [5] (fun i wr => ∃ k : Nat, k ≤ n1 ∧ i = .int .i64 k ∧ l1.take k = l2.take k ∧ Below w.heap.size w wr) (fun i _ => n1 - (intOf i).toNat)
   case atStart => exact ⟨0, Nat.zero_le _, rfl, rfl, Below.refl _ _⟩
   case round =>
    obtain ⟨k, hk, rfl, heq, hb⟩ := hrel
    have Heq := Lib.hid heq
    clear heq
    by_cases hlt : k < n1
    · obtain ⟨b1, o1, rfl, hb1, hc1⟩ := ints_at (h1.below hb (Nat.le_refl _)) hlt
      obtain ⟨b2, o2, rfl, hb2, hc2⟩ := ints_at (h2.below hb (Nat.le_refl _)) hlt
      have k0 : (0 : Int) ≤ k := by omega
      have k1 : (k : Int) < n1 := by omega
      go_wp2
      go_quiet (fail)
      go_wp2
      · have e : (!l1[k]?.getD 0 == l2[k]?.getD 0) = true := by assumption
        go_ret
        exact ⟨ret_bool (not_next e), below_drewN hb _⟩
      · have e : (!l1[k]?.getD 0 == l2[k]?.getD 0) = false := by assumption
        go_roundw
        case rel => exact ⟨k + 1, by omega, by go_num, take_next (by have := Hl1.out; omega) (by have := Hl2.out; omega) Heq.out e, below_drewN hb _⟩
        case measure => simp [intOf]; omega
    · have : k = n1 := by omega
      subst this
      go_wp2
      go_ret
      refine ⟨ret_bool ?_, hb⟩
      have := Heq.out
      rw [List.take_of_length_le (by have := Hl1.out; omega), List.take_of_length_le (by have := Hl2.out; omega)] at this
      simp [this]
 · go_enter Tryz.func15, Tryz.ntmps15
   go_wp2
   all_goals go_ret
   · refine ⟨ret_bool ?_, Below.refl _ _⟩
     symm
     rw [decide_eq_false_iff_not]
     rintro rfl
     omega
set_option maxHeartbeats 400000 in
theorem sameFault_any (x1 x2 : Int) (A1 A2 : Option Addr) (n1 n2 c1 c2 : Nat) (l1 l2 : List Int) (w : World) (hn1 : n1 ≤ 9223372036854775807) (h1 : Rd w w.heap.size 1 A1 n1 (ints l1)) (h2 : Rd w w.heap.size 1 A2 n2 (ints l2)) :
 Calls Tryz.prog 85 #[.agg #[.int .i64 x1, .slice A1 n1 c1], .agg #[.int .i64 x2, .slice A2 n2 c2]] w fun e w' => e = .returned (.bool (decide (x1 = x2 ∧ l1 = l2))) ∧ Below w.heap.size w w' := by
 go_enter Tryz.func85, Tryz.ntmps85
 go_wp2_with fail
 refine (sameInts_any _ _ _ _ _ _ l1 l2 _ hn1 (((h1.alloc (Nat.le_refl _) _).alloc (by simp) _).more (by simp; omega)) (((h2.alloc (Nat.le_refl _) _).alloc (by simp) _).more (by simp; omega))).mono ?_
 rintro e w1 ⟨rfl, hb⟩
 obtain ⟨hc, hf⟩ := bcell hb
 have hbb : Below w.heap.size w w1 := (((Below.refl _ _).alloc (Nat.le_refl _) _).alloc (by simp) _).trans (hb.mono (by simp; omega))
 go_wp2
 · have e : x1 = x2 := by assumption
   go_ret
   exact ⟨ret_bool (by simp [e]), hbb⟩
 · have e : ¬ x1 = x2 := by assumption
   go_ret
   exact ⟨ret_bool (by simp [e]), hbb⟩
/-! ### the sentinels -/
/-- The package-level variable of the sentinel of number 100 + k. -/
def gOf : Nat → Nat
 | 1 => 0
 | 2 => 3
 | 3 => 7
 | 4 => 6
 | 5 => 10
 | 6 => 11
 | 7 => 12
 | 8 => 8
 | 9 => 5
 | 10 => 4
 | 11 => 13
 | 12 => 1
 | 13 => 2
 | _ => 14
def sent (a : Addr) : Value := .iface 345 (.pointer (some a))
/-- Of the numbers in S the variables hold pointers, which are different, to blocks below B. -/
structure Sent (w : World) (B : Nat) (S : List Nat) (a : Nat → Addr) : Prop where
 cell : ∀ k ∈ S, gOf k < B ∧ w.cell? ⟨gOf k, 0, none⟩ = some (sent (a k))
 row : ∀ k ∈ S, (a k).block < B ∧ ∃ cs t, w.heap[(a k).block]? = some (.cells cs t (0, 0))
 inj : ∀ k ∈ S, ∀ j ∈ S, a k = a j → k = j
theorem Sent.below {w w' : World} {B C : Nat} {S : List Nat} {a : Nat → Addr} (h : Sent w B S a) (hb : Below C w w') (hC : B ≤ C) : Sent w' B S a :=
 ⟨fun k hk => ⟨(h.cell k hk).1, (hb.cell (p := ⟨gOf k, 0, none⟩) (Nat.lt_of_lt_of_le (h.cell k hk).1 hC)).trans (h.cell k hk).2⟩,
  fun k hk => ⟨(h.row k hk).1, by
   obtain ⟨hlt, cs, t, hr⟩ := h.row k hk
   exact ⟨cs, t, (hb.block _ (Nat.lt_of_lt_of_le hlt hC)).trans hr⟩⟩, h.inj⟩
theorem Sent.cellA {w : World} {B : Nat} {S : List Nat} {a : Nat → Addr} (h : Sent w B S a) (hB : B ≤ w.heap.size) {k : Nat} (hk : k ∈ S) (o : Obj) : (w.alloc o).cell? ⟨gOf k, 0, none⟩ = some (sent (a k)) :=
 (World.cell?_alloc_lt w o ⟨gOf k, 0, none⟩ (Nat.lt_of_lt_of_le (h.cell k hk).1 hB)).trans (h.cell k hk).2
/-- An error that is nil, or one of the sentinels. -/
def errV (a : Nat → Addr) : Nat → Value
 | 0 => .nilIface
 | k + 1 => sent (a (k + 1))
def all14 : List Nat := [1, 2, 3, 4, 5, 6, 7, 8, 9, 10, 11, 12, 13, 14]
set_option maxHeartbeats 400000 in
theorem sentinels_any (a : Nat → Addr) (B : Nat) (w : World) (h : Sent w B all14 a) :
 Calls Tryz.prog 204 #[] w fun e w' => e = .returned (.slice (some ⟨w.heap.size, 0, none⟩) 14 14) ∧ w' = w.alloc (.cells #[sent (a 1), sent (a 2), sent (a 3), sent (a 4), sent (a 5), sent (a 6), sent (a 7), sent (a 8), sent (a 9), sent (a 10), sent (a 11), sent (a 12), sent (a 13), sent (a 14)] 40) := by
 have h1 := (h.cell 1 (by simp [all14])).2
 have h2 := (h.cell 2 (by simp [all14])).2
 have h3 := (h.cell 3 (by simp [all14])).2
 have h4 := (h.cell 4 (by simp [all14])).2
 have h5 := (h.cell 5 (by simp [all14])).2
 have h6 := (h.cell 6 (by simp [all14])).2
 have h7 := (h.cell 7 (by simp [all14])).2
 have h8 := (h.cell 8 (by simp [all14])).2
 have h9 := (h.cell 9 (by simp [all14])).2
 have h10 := (h.cell 10 (by simp [all14])).2
 have h11 := (h.cell 11 (by simp [all14])).2
 have h12 := (h.cell 12 (by simp [all14])).2
 have h13 := (h.cell 13 (by simp [all14])).2
 have h14 := (h.cell 14 (by simp [all14])).2
 simp only [gOf, sent] at h1 h2 h3 h4 h5 h6 h7 h8 h9 h10 h11 h12 h13 h14
 simp only [sent]
 go_enter Tryz.func204, Tryz.ntmps204
 go_wp2
 go_ret
 exact ⟨rfl, rfl⟩
end Go.Proofs.YtjjmpfmhggcjiaaGreatDoor
namespace Go.Proofs.YtjjmpfmhggcjiaaGreatDoor
open Go.RowKit Go.Maps
theorem ret_int {k : IntKind} {a b : Int} (h : a = b) : Ending.returned (.int k a) = .returned (.int k b) := by rw [h]
theorem infoE : (Tryz.prog.info? 345).map (·.comparable) = some true := by kernel_rfl
theorem infoES : (Tryz.prog.info? 360).map (·.size) = some 1 := by kernel_rfl
theorem eql_sent {w : World} {B : Nat} {S : List Nat} {a : Nat → Addr} (h : Sent w B S a) {k j : Nat} (hk : k ∈ S) (hj : j ∈ S) :
 (binOp .eql 40 (sent (a k)) (sent (a j))).run Tryz.prog w = .ok (.bool (decide (k = j))) w := by
 obtain ⟨i, hi, hic⟩ := Option.map_eq_some_iff.1 infoE
 obtain ⟨i2, hi2, hic2⟩ := Option.map_eq_some_iff.1 infoES
 by_cases e : k = j
 · subst e
   rw [decide_eq_true rfl]
   exact run_eql_iface_ptr_same w (a k) Tryz.underlying40 Tryz.underlying345 hi hic hi2
 · rw [decide_eq_false e]
   obtain ⟨_, cs, t, hr⟩ := h.row k hk
   obtain ⟨_, cs', t', hr'⟩ := h.row j hj
   exact run_eql_iface_ptr_other w Tryz.underlying40 Tryz.underlying345 hi hic hi2 (by rw [hic2]; decide) (fun e2 => e (h.inj k hk j hj e2)) hr hr'
set_option maxHeartbeats 400000 in
theorem alike_any (a : Nat → Addr) (B : Nat) (S : List Nat) (w : World) (h : Sent w B S a) {k j : Nat} (hk : k ∈ S) (hj : j ∈ S) :
 Calls Tryz.prog 205 #[sent (a k), sent (a j)] w fun e w' => e = .returned (.bool (decide (k = j))) ∧ w = w' := by
 have he := eql_sent h hk hj
 simp only [sent] at he ⊢
 go_enter Tryz.func205, Tryz.ntmps205
 go_wp2
 go_ret
 exact ⟨rfl, rfl⟩
theorem sentCell (a : Nat → Addr) (w : World) (j : Nat) (hj : j < 14) : (w.alloc (.cells #[sent (a 1), sent (a 2), sent (a 3), sent (a 4), sent (a 5), sent (a 6), sent (a 7), sent (a 8), sent (a 9), sent (a 10), sent (a 11), sent (a 12), sent (a 13), sent (a 14)] 40)).cell? ⟨w.heap.size, j, none⟩ = some (sent (a (j + 1))) := by
 rw [(Blk.new w _ _).cell]
 have : j = 0 ∨ j = 1 ∨ j = 2 ∨ j = 3 ∨ j = 4 ∨ j = 5 ∨ j = 6 ∨ j = 7 ∨ j = 8 ∨ j = 9 ∨ j = 10 ∨ j = 11 ∨ j = 12 ∨ j = 13 := by omega
 rcases this with rfl | rfl | rfl | rfl | rfl | rfl | rfl | rfl | rfl | rfl | rfl | rfl | rfl | rfl <;> rfl
theorem mem14 {k : Nat} : k ∈ all14 ↔ 1 ≤ k ∧ k ≤ 14 := by
 unfold all14
 simp
 omega
set_option maxHeartbeats 400000 in
theorem sentinel_any (a : Nat → Addr) (B : Nat) (w : World) (h : Sent w B all14 a) (hB : B ≤ w.heap.size) {k : Nat} (hk : k ∈ all14) :
 Calls Tryz.prog 170 #[sent (a k)] w fun e w' => e = .returned (.int .i64 (100 + k)) ∧ Below w.heap.size w w' := by
 have hk2 := mem14.1 hk
 have h1 : Sent (w.alloc (.cells #[sent (a 1), sent (a 2), sent (a 3), sent (a 4), sent (a 5), sent (a 6), sent (a 7), sent (a 8), sent (a 9), sent (a 10), sent (a 11), sent (a 12), sent (a 13), sent (a 14)] 40)) B all14 a := h.below ((Below.refl w.heap.size w).alloc (Nat.le_refl _) _) hB
 have hb1 : Below w.heap.size w (w.alloc (.cells #[sent (a 1), sent (a 2), sent (a 3), sent (a 4), sent (a 5), sent (a 6), sent (a 7), sent (a 8), sent (a 9), sent (a 10), sent (a 11), sent (a 12), sent (a 13), sent (a 14)] 40)) := (Below.refl w.heap.size w).alloc (Nat.le_refl _) _
 have hcell := sentCell a w
 generalize hW : (w.alloc (.cells #[sent (a 1), sent (a 2), sent (a 3), sent (a 4), sent (a 5), sent (a 6), sent (a 7), sent (a 8), sent (a 9), sent (a 10), sent (a 11), sent (a 12), sent (a 13), sent (a 14)] 40)) = W at *
 have HW := Lib.hid hW
 have Hcell := Lib.hid hcell
 clear hW hcell
 go_enter Tryz.func170, Tryz.ntmps170
 go_wp2_with (go_at_call 204; refine (sentinels_any a B _ h).mono ?_; rintro e w' ⟨rfl, hw'⟩; rw [HW.out] at hw'; subst hw')
 go_loop [4] (fun i => ∃ j : Nat, j < k ∧ i = .int .i64 j) (fun i => 14 - (intOf i).toNat)
 case atStart => exact ⟨0, by omega, rfl⟩
 case round =>
  obtain ⟨j, hj, rfl⟩ := hrel
  have hc := Hcell.out j (by omega)
  go_wp2_with (go_at_call 205; refine (alike_any a B all14 _ h1 hk (mem14.2 ⟨by omega, by omega⟩ : j + 1 ∈ all14)).mono ?_; rintro e w' ⟨rfl, rfl⟩)
  · have e : k = j + 1 := by assumption
    go_ret
    exact ⟨ret_int (by omega), hb1⟩
  · have e : ¬ k = j + 1 := by assumption
    go_round
    case rel => exact ⟨j + 1, by omega, by go_num⟩
    case measure => simp [intOf]; omega
/-- What a type assertion on an error comes to. -/
theorem assert_no1 (x : Value) (w : World) : (Instr.typeAssert (.iface 345 x) 40 249 true).run Tryz.prog w = .ok (.tuple #[.pointer none, .bool false]) w := by kernel_rfl
theorem assert_no2 (x : Value) (w : World) : (Instr.typeAssert (.iface 345 x) 40 97 true).run Tryz.prog w = .ok (.tuple #[.pointer none, .bool false]) w := by kernel_rfl
set_option maxHeartbeats 400000 in
theorem fault_sent (a : Nat → Addr) (B : Nat) (w : World) (h : Sent w B all14 a) (hB : B ≤ w.heap.size) {k : Nat} (hk : k ∈ all14) (left : Int) (hl : 0 < left) :
 Calls Tryz.prog 128 #[sent (a k), .int .i64 left] w fun e w' => e = .returned (.agg #[.int .i64 (100 + k), .slice none 0 0]) ∧ Below w.heap.size w w' := by
 have hl0 : (left == 0) = false := by simp; omega
 have ha1 := assert_no1
 have ha2 := assert_no2
 have hs := fun W hW hB' => sentinel_any a B W (h := hW) (hB := hB') hk
 have Hs := Lib.hid hs
 clear hs
 unfold sent at *
 go_enter Tryz.func128, Tryz.ntmps128
 go_wp2_with fail
 refine (Hs.out _ (h.below ((Below.refl w.heap.size w).alloc (Nat.le_refl _) _) hB) (by simp; omega)).mono ?_
 rintro e w1 ⟨rfl, hb⟩
 have hbb : Below w.heap.size w w1 := ((Below.refl _ _).alloc (Nat.le_refl _) _).trans (hb.mono (by simp))
 have hB1 := (Blk.new w 75 #[.int .i64 0, .slice none 0 0]).below hb (by simp)
 go_wp2_with fail
 refine (bare_any _ _).mono ?_
 rintro e w2 ⟨rfl, hb2⟩
 have hbb2 : Below w.heap.size w w2 := hbb.trans (hb2.mono hbb.size)
 have hB2 := hB1.below hb2 hB1.lt
 have q0 := hB2.at0
 have q1 := hB2.at1
 have f0 := hB2.frozen 0
 have f1 := hB2.frozen 1
 go_wp2
 exact bodyPost_ret (v := .agg #[.int .i64 (100 + k), .slice none 0 0]) (by simp [results, Tryz.results128, go_sem, q0, q1]) rfl ⟨rfl, (hbb2.setCell (by simp) _).setCell (by simp) _⟩
set_option maxHeartbeats 400000 in
theorem faultAll_nil (w : World) :
 Calls Tryz.prog 84 #[.nilIface] w fun e w' => e = .returned (.agg #[.int .i64 0, .slice none 0 0]) ∧ Below w.heap.size w w' := by
 go_enter Tryz.func84, Tryz.ntmps84
 go_wp2_with fail
 refine (none_any _).mono ?_
 rintro e w1 ⟨rfl, hb⟩
 have hbb : Below w.heap.size w w1 := ((Below.refl _ _).alloc (Nat.le_refl _) _).trans (hb.mono (by simp))
 have hB1 := (Blk.new w 75 #[.int .i64 0, .slice none 0 0]).below hb (by simp)
 have q0 := hB1.at0
 have q1 := hB1.at1
 have f0 := hB1.frozen 0
 have f1 := hB1.frozen 1
 go_wp2
 exact bodyPost_ret (v := .agg #[.int .i64 0, .slice none 0 0]) (by simp [results, Tryz.results84, go_sem, q0, q1]) rfl ⟨rfl, (hbb.setCell (by simp) _).setCell (by simp) _⟩
set_option maxHeartbeats 400000 in
theorem faultAll_sent (a : Nat → Addr) (B : Nat) (w : World) (h : Sent w B all14 a) (hB : B ≤ w.heap.size) {k : Nat} (hk : k ∈ all14) :
 Calls Tryz.prog 84 #[sent (a k)] w fun e w' => e = .returned (.agg #[.int .i64 (100 + k), .slice none 0 0]) ∧ Below w.heap.size w w' := by
 have hs := fun W hW hB' => fault_sent a B W (h := hW) (hB := hB') hk 9 (by omega)
 have Hs := Lib.hid hs
 clear hs
 unfold sent at *
 go_enter Tryz.func84, Tryz.ntmps84
 go_wp2_with fail
 refine (Hs.out _ (h.below ((Below.refl w.heap.size w).alloc (Nat.le_refl _) _) hB) (by simp; omega)).mono ?_
 rintro e w1 ⟨rfl, hb⟩
 have hbb : Below w.heap.size w w1 := ((Below.refl _ _).alloc (Nat.le_refl _) _).trans (hb.mono (by simp))
 have hB1 := (Blk.new w 75 #[.int .i64 0, .slice none 0 0]).below hb (by simp)
 have q0 := hB1.at0
 have q1 := hB1.at1
 have f0 := hB1.frozen 0
 have f1 := hB1.frozen 1
 go_wp2
 exact bodyPost_ret (v := .agg #[.int .i64 (100 + k), .slice none 0 0]) (by simp [results, Tryz.results84, go_sem, q0, q1]) rfl ⟨rfl, (hbb.setCell (by simp) _).setCell (by simp) _⟩
/-- The number of an error: 0 of none. -/
def codeOf (k : Nat) : Int := if k = 0 then 0 else 100 + k
theorem faultAll_any (a : Nat → Addr) (B : Nat) (w : World) (h : Sent w B all14 a) (hB : B ≤ w.heap.size) {k : Nat} (hk : k ≤ 14) :
 Calls Tryz.prog 84 #[errV a k] w fun e w' => e = .returned (.agg #[.int .i64 (codeOf k), .slice none 0 0]) ∧ Below w.heap.size w w' := by
 cases k with
 | zero => exact faultAll_nil w
 | succ k => exact faultAll_sent a B w h hB (mem14.2 ⟨by omega, by omega⟩)
set_option maxHeartbeats 400000 in
theorem same_any (v : Value) (c1 : Int) (c2 : Int) (A1 A2 : Option Addr) (n1 n2 p1 p2 : Nat) (l1 l2 : List Int) (w : World) (hn1 : n1 ≤ 9223372036854775807) (hr2 : Rd w w.heap.size 1 A2 n2 (ints l2))
 (hf : ∀ W, Below w.heap.size w W → Calls Tryz.prog 84 #[v] W fun e w' => e = .returned (.agg #[.int .i64 c1, .slice A1 n1 p1]) ∧ Rd w' w'.heap.size 1 A1 n1 (ints l1) ∧ Below W.heap.size W w') :
 Calls Tryz.prog 38 #[v, .agg #[.int .i64 c2, .slice A2 n2 p2]] w fun e w' => e = .returned (.bool (decide (c1 = c2 ∧ l1 = l2))) ∧ Below w.heap.size w w' := by
 have Hf := Lib.hid hf
 clear hf
 go_enter Tryz.func38, Tryz.ntmps38
 go_wp2_with fail
 refine (Hf.out _ ((Below.refl w.heap.size w).alloc (Nat.le_refl _) _)).mono ?_
 rintro e w1 ⟨rfl, hr1, hb⟩
 have hbb : Below w.heap.size w w1 := ((Below.refl _ _).alloc (Nat.le_refl _) _).trans (hb.mono (by simp))
 have hB1 := (Blk.new w 75 #[.int .i64 c2, .slice A2 n2 p2]).below hb (by simp)
 have q0 := hB1.at0
 have q1 := hB1.at1
 have hz := hB1.lt
 go_wp2_with fail
 refine (sameFault_any c1 c2 A1 A2 n1 n2 p1 p2 l1 l2 _ hn1 ((hr1.alloc (Nat.le_refl _) _).more (by simp)) (((hr2.below hbb (Nat.le_refl _)).alloc (by omega) _).more (by simp; omega))).mono ?_
 rintro e w2 ⟨rfl, hb2⟩
 go_wp2
 go_ret
 exact ⟨ret_bool (by simp), (hbb.alloc (by omega) _).trans (hb2.mono (by simp; omega))⟩
set_option maxHeartbeats 400000 in
theorem is_any (a : Nat → Addr) (B : Nat) (w : World) (h : Sent w B all14 a) (hB : B ≤ w.heap.size) {k : Nat} (hk : k ≤ 14) (c : Int) :
 Calls Tryz.prog 13 #[errV a k, .int .i64 c] w fun e w' => e = .returned (.bool (decide (codeOf k = c))) ∧ Below w.heap.size w w' := by
 have hs := fun W (hW : Below w.heap.size w W) => same_any (errV a k) (codeOf k) c none none 0 0 0 0 [] [] W (by omega) (Rd.nil _ _ _ _) (fun W' hW' => (faultAll_any a B W' (h.below (hW.trans (hW'.mono hW.size)) hB) (Nat.le_trans (Nat.le_trans hB hW.size) hW'.size) hk).mono fun e w' ⟨h1, h2⟩ => ⟨h1, Rd.nil _ _ _ _, h2⟩)
 have Hs := Lib.hid hs
 clear hs
 generalize errV a k = v at *
 go_enter Tryz.func13, Tryz.ntmps13
 go_wp2_with fail
 refine (bare_any _ _).mono ?_
 rintro e w1 ⟨rfl, hb1⟩
 go_wp2_with fail
 refine (Hs.out _ hb1).mono ?_
 rintro e w2 ⟨rfl, hb2⟩
 go_wp2
 go_ret
 exact ⟨ret_bool (by simp), hb1.trans (hb2.mono hb1.size)⟩
end Go.Proofs.YtjjmpfmhggcjiaaGreatDoor
namespace Go.Proofs.YtjjmpfmhggcjiaaGreatDoor
open Go.RowKit Go.Maps
theorem Rd.cell_add {w : World} {B m : Nat} {ad : Addr} {xs : List Value} (h : Rd w B 1 (some ad) m xs) : ∀ j u, xs[j]? = some u → w.cell? (ad.add j) = some u := fun j u hu => by
 have hj : j < xs.length := (List.getElem?_eq_some_iff.1 hu).1
 have hl := h.1
 obtain ⟨b, off, e, _, hc⟩ := h.2 (by omega)
 injection e with e
 subst e
 rw [Go.WideShapes.add_plain]
 exact hc j u hu
theorem run_append_rd {P : Program} (w : World) (base : Nat) (t ty e : TypeId) (i : TypeInfo) (z : Value) (bytes : Nat) (ht : P.underlying t = some (.slice e)) (hi : P.info? e = some i) (hz : i.zero = some z) (hs : i.size = 1) (hby : i.bytes = bytes) (hzs : z.cells.size = 1)
 (v : Value) (n : Nat) (xs : List Value) (hown : w.ownsRow base e 1 v n xs) (B : Nat) (A : Option Addr) (m c : Nat) (news : List Value) (hr : Rd w B 1 A m news) (h1 : ∀ u ∈ news, u.oneCell' = true)
 (h63 : n + m ≤ maxLen) (hbytes : (n + m) * bytes ≤ 140737488355328) (hbase : base ≤ w.heap.size) :
 ∃ A' c' w', (Builtin.append_ #[t, t] ty #[v, .slice A m c]).run P w = .ok (.slice A' (n + m) c') w' ∧ w'.ownsRow base e 1 (.slice A' (n + m) c') (n + m) (xs ++ news) ∧ w.grownBy w' v.ownBlock := by
 cases A with
 | none =>
   have hm : m = 0 := by
    rcases Nat.eq_zero_or_pos m with h0 | h0
    · exact h0
    · obtain ⟨b, off, h, _⟩ := hr.2 h0
      cases h
   subst hm
   have hn : news = [] := List.eq_nil_of_length_eq_zero (by simpa using hr.1)
   subst hn
   obtain ⟨A', c', rfl⟩ := own_slice hown
   refine ⟨A', c', w, ?_, by simpa using hown, ⟨rfl, rfl, rfl, Nat.le_refl _, fun _ _ _ => rfl⟩⟩
   rcases hown.2 with ⟨h0, h00⟩ | ⟨g, cap, cur, hv, _, _, hnc, _⟩
   · cases h0
     simp [Builtin.append_, run_underlying ht, sizeOf, typeInfo, hi, Builtin.lenOf, Builtin.firstCells]
   · cases hv
     simp [Builtin.append_, run_underlying ht, sizeOf, typeInfo, hi, Builtin.lenOf, Builtin.firstCells, hnc, storeCells]
 | some ad =>
   obtain ⟨v', w', hrun, h2, h3, _, _⟩ := run_append_own_at (P := P) w base t ty e i z 1 bytes ht hi hz hs hby hzs (by omega) v n xs hown ad m c news (by simpa using hr.1) hr.cell_add h1 h63 hbytes hbase
   obtain ⟨A', c', rfl⟩ := own_slice h2
   exact ⟨A', c', w', hrun, h2, h3⟩
section
variable {P : Program} {w : World} {ops : Array Oper} {o : Oper} {a : Act} {Q : Exit → Act → World → Prop}
theorem wp_append_rd {K : Act → World → Prop} (s x : Operand) (t : TypeId) (ho : o.op = .call { callee := .builtin .append, args := #[s, x], argTypes := #[t, t] })
 (base : Nat) (e : TypeId) (i : TypeInfo) (z : Value) (bytes : Nat) (ht : P.underlying t = some (.slice e)) (hi : P.info? e = some i) (hz : i.zero = some z) (hs1 : i.size = 1) (hby : i.bytes = bytes) (hzs : z.cells.size = 1)
 (v : Value) (n : Nat) (xs : List Value) (hs : a.eval s = v) (hown : w.ownsRow base e 1 v n xs) (B : Nat) (A : Option Addr) (m c : Nat) (news : List Value) (hx : a.eval x = .slice A m c) (hr : Rd w B 1 A m news) (h1 : ∀ u ∈ news, u.oneCell' = true)
 (h63 : n + m ≤ maxLen) (hbytes : (n + m) * bytes ≤ 140737488355328) (hbase : base ≤ w.heap.size)
 (h : ∀ A' c' w', w'.ownsRow base e 1 (.slice A' (n + m) c') (n + m) (xs ++ news) → w.grownBy w' v.ownBlock → K (a.put o.dst (.slice A' (n + m) c')) w') : o.wp P a w K Q := by
 obtain ⟨A', c', w', hrun, h2, h3⟩ := run_append_rd (P := P) w base t o.type e i z bytes ht hi hz hs1 hby hzs v n xs hown B A m c news hr h1 h63 hbytes hbase
 unfold Oper.wp execOp
 simp only [ho, resolve, invoke, builtin, Sem.run_bind, Sem.run_pure, Result.andThen_ok, List.map_toArray, List.map_cons, List.map_nil, hs, hx, hrun]
 exact h A' c' w' h2 h3
theorem wpList_append_rd {rest : List Oper} (hw : Region.wanted o (yielded ops a.tmps) = true) (s x : Operand) (t : TypeId) (ho : o.op = .call { callee := .builtin .append, args := #[s, x], argTypes := #[t, t] })
 (base : Nat) (e : TypeId) (i : TypeInfo) (z : Value) (bytes : Nat) (ht : P.underlying t = some (.slice e)) (hi : P.info? e = some i) (hz : i.zero = some z) (hs1 : i.size = 1) (hby : i.bytes = bytes) (hzs : z.cells.size = 1)
 (v : Value) (n : Nat) (xs : List Value) (hs : a.eval s = v) (hown : w.ownsRow base e 1 v n xs) (B : Nat) (A : Option Addr) (m c : Nat) (news : List Value) (hx : a.eval x = .slice A m c) (hr : Rd w B 1 A m news) (h1 : ∀ u ∈ news, u.oneCell' = true)
 (h63 : n + m ≤ maxLen) (hbytes : (n + m) * bytes ≤ 140737488355328) (hbase : base ≤ w.heap.size)
 (h : ∀ A' c' w', w'.ownsRow base e 1 (.slice A' (n + m) c') (n + m) (xs ++ news) → w.grownBy w' v.ownBlock → wpList P ops Q rest (a.put o.dst (.slice A' (n + m) c')) w') : wpList P ops Q (o :: rest) a w :=
 wpList_on hw fun _ hK => wp_append_rd s x t ho base e i z bytes ht hi hz hs1 hby hzs v n xs hs hown B A m c news hx hr h1 h63 hbytes hbase fun A' c' w' h2 h3 => hK _ _ (h A' c' w' h2 h3)
end
end Go.Proofs.YtjjmpfmhggcjiaaGreatDoor
