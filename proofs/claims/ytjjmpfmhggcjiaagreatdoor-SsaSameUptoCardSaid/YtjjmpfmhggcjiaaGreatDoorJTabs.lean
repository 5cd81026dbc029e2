/-
 TxLaw, TxB, Shelf5, Tabs.
-/
import Derived.Lib.ItoaNum
import Derived.Shelf.Strconv.Quote
import Derived.Shelf.LaysM
import Derived.Shelf.Strconv.Itoa3
import Derived.Shelf.Strconv.Itoa4
import Derived.Test.YtjjmpfmhggcjiaaGreatDoorProg
import Derived.Sort.Grow
import Derived.Test.YtjjmpfmhggcjiaaGreatDoorRows
import Derived.Lib.LaidPrint
import Derived.Lib.LaidU8
import Derived.Lib.LaidTab
import Derived.MakeChecks
import Derived.Test.YtjjmpfmhggcjiaaGreatDoorJShape
import Derived.Test.YtjjmpfmhggcjiaaGreatDoorJTxQ
set_option linter.unusedSimpArgs false
set_option linter.unusedVariables false
namespace Go.Proofs.YtjjmpfmhggcjiaaGreatDoor
open Go.RowKit Go.Maps
def decZ (u : Nat) : List Int := (Lib.decDigits u).map fun b => (b.toNat : Int)
def itoaZ (n : Int) : List Int := if n < 0 then 45 :: decZ n.natAbs else decZ n.toNat
def isDig (d : Int) : Bool := decide (48 ≤ d) && decide (d ≤ 57)
def valZ (l : List Int) : Int := l.foldl (fun a d => a * 10 + (d - 48)) 0
theorem decZ_small {u : Nat} (h : u < 10) : decZ u = [48 + (u : Int)] := by
 unfold decZ
 rw [Lib.decDigits, dif_pos h]
 simp
 omega
theorem decZ_big {u : Nat} (h : ¬ u < 10) : decZ u = decZ (u / 10) ++ [48 + ((u % 10 : Nat) : Int)] := by
 unfold decZ
 rw [Lib.decDigits, dif_neg h]
 simp
 omega
theorem decZ_dig (u : Nat) : ∀ d ∈ decZ u, isDig d = true := by
 induction u using Nat.strongRecOn with
 | _ u ih =>
   by_cases h : u < 10
   · rw [decZ_small h]
     intro d hd
     simp at hd
     subst hd
     simp [isDig]
     omega
   · rw [decZ_big h]
     intro d hd
     rcases List.mem_append.1 hd with hd | hd
     · exact ih (u / 10) (by omega) d hd
     · simp at hd
       subst hd
       simp [isDig]
       omega
theorem decZ_val (u : Nat) : valZ (decZ u) = (u : Int) := by
 induction u using Nat.strongRecOn with
 | _ u ih =>
   by_cases h : u < 10
   · rw [decZ_small h]
     simp [valZ]
     omega
   · rw [decZ_big h]
     have h2 := ih (u / 10) (by omega)
     unfold valZ at h2 ⊢
     rw [List.foldl_append, h2]
     simp
     omega
theorem decZ_head (u : Nat) : ∃ d t, decZ u = d :: t ∧ isDig d = true := by
 match h : decZ u with
 | [] =>
   by_cases h1 : u < 10
   · rw [decZ_small h1] at h; cases h
   · rw [decZ_big h1] at h; simp at h
 | d :: t => exact ⟨d, t, rfl, decZ_dig u d (by rw [h]; exact List.mem_cons_self)⟩
theorem itoaZ_head (n : Int) : ∃ d t, itoaZ n = d :: t ∧ (d = 45 ∨ isDig d = true) := by
 unfold itoaZ
 split
 · exact ⟨_, _, rfl, .inl rfl⟩
 · obtain ⟨d, t, h1, h2⟩ := decZ_head n.toNat
   exact ⟨d, t, h1, .inr h2⟩
/-- What may stand behind a number. -/
def Stop (r : List Int) : Prop := ∀ d t, r = d :: t → isDig d = false
/-- What may stand behind a row of numbers. -/
def StopL (r : List Int) : Prop := Stop r ∧ ∀ y t, r = 32 :: y :: t → y ≠ 45 ∧ isDig y = false
theorem decZ_take {u : Nat} {r : List Int} (h : Stop r) : (decZ u ++ r).takeWhile isDig = decZ u := by
 rw [List.takeWhile_append_of_pos (decZ_dig u)]
 have e : r.takeWhile isDig = [] := by
  cases r with
  | nil => rfl
  | cons d t => rw [List.takeWhile_cons, if_neg (by rw [h d t rfl]; decide)]
 rw [e, List.append_nil]
theorem decZ_dec {u v : Nat} {r1 r2 : List Int} (h1 : Stop r1) (h2 : Stop r2) (e : decZ u ++ r1 = decZ v ++ r2) : u = v ∧ r1 = r2 := by
 have e1 : decZ u = decZ v := by rw [← decZ_take (u := u) h1, e, decZ_take h2]
 refine ⟨?_, ?_⟩
 · have a := decZ_val u
   have b := decZ_val v
   rw [e1, b] at a
   omega
 · rw [e1] at e
   exact List.append_cancel_left e
theorem itoaZ_dec {n m : Int} {r1 r2 : List Int} (h1 : Stop r1) (h2 : Stop r2) (e : itoaZ n ++ r1 = itoaZ m ++ r2) : n = m ∧ r1 = r2 := by
 unfold itoaZ at e
 by_cases a : n < 0
 · by_cases b : m < 0
   · rw [if_pos a, if_pos b] at e
     simp only [List.cons_append, List.cons.injEq, true_and] at e
     have := decZ_dec h1 h2 e
     exact ⟨by omega, this.2⟩
   · rw [if_pos a, if_neg b] at e
     obtain ⟨d, t, h3, h4⟩ := decZ_head m.toNat
     rw [h3] at e
     simp only [List.cons_append, List.cons.injEq] at e
     rw [← e.1] at h4
     simp [isDig] at h4
 · by_cases b : m < 0
   · rw [if_neg a, if_pos b] at e
     obtain ⟨d, t, h3, h4⟩ := decZ_head n.toNat
     rw [h3] at e
     simp only [List.cons_append, List.cons.injEq] at e
     rw [e.1] at h4
     simp [isDig] at h4
   · rw [if_neg a, if_neg b] at e
     have := decZ_dec h1 h2 e
     exact ⟨by omega, this.2⟩
def numsZ (l : List Int) : List Int := l.flatMap fun n => 32 :: itoaZ n
theorem numsZ_cons (n : Int) (l : List Int) : numsZ (n :: l) = 32 :: (itoaZ n ++ numsZ l) := by simp [numsZ]
theorem stop_nums {l r : List Int} (h : StopL r) : Stop (numsZ l ++ r) := by
 cases l with
 | nil => exact h.1
 | cons n l =>
   intro d t e
   rw [numsZ_cons] at e
   simp only [List.cons_append, List.cons.injEq] at e
   rw [← e.1]
   rfl
theorem stopL_not {n : Int} {l r X : List Int} (h : StopL r) : r ≠ numsZ (n :: l) ++ X := by
 intro e
 rw [numsZ_cons] at e
 obtain ⟨d, t, h1, h2⟩ := itoaZ_head n
 rw [h1] at e
 have h3 := h.2 d _ e
 rcases h2 with h2 | h2
 · exact h3.1 h2
 · rw [h2] at h3
   exact absurd h3.2 (by decide)
theorem numsZ_dec : ∀ {l m : List Int} {r1 r2 : List Int}, StopL r1 → StopL r2 → numsZ l ++ r1 = numsZ m ++ r2 → l = m ∧ r1 = r2
 | [], [], r1, r2, _, _, e => ⟨rfl, by simpa [numsZ] using e⟩
 | [], m :: ms, r1, r2, h1, _, e => absurd (show r1 = _ from e) (stopL_not h1)
 | n :: l, [], r1, r2, _, h2, e => absurd (show r2 = _ from e.symm) (stopL_not h2)
 | n :: l, m :: ms, r1, r2, h1, h2, e => by
   rw [numsZ_cons, numsZ_cons] at e
   simp only [List.cons_append, List.append_assoc, List.cons.injEq, true_and] at e
   obtain ⟨h3, h4⟩ := itoaZ_dec (stop_nums h1) (stop_nums h2) e
   obtain ⟨h5, h6⟩ := numsZ_dec h1 h2 h4
   exact ⟨by rw [h3, h5], h6⟩
theorem stopL_nil : StopL [] := ⟨fun _ _ e => by (cases e), fun _ _ e => by (cases e)⟩
theorem stopL_cons {d : Int} {t : List Int} (h : isDig d = false) (h2 : d ≠ 32) : StopL (d :: t) := ⟨fun _ _ e => by (cases e; exact h), fun _ _ e => by (cases e; exact absurd rfl h2)⟩
theorem stopL_word {y : Int} {t : List Int} (h : y ≠ 45) (h2 : isDig y = false) : StopL (32 :: y :: t) := ⟨fun _ _ e => by (cases e; rfl), fun _ _ e => by (cases e; exact ⟨h, h2⟩)⟩
/-- A kind of thing in the text that tells its end, by what stands behind it. -/
def Dec {α : Type} (enc : α → List Int) (stop : List Int → Prop) : Prop := ∀ x y r1 r2, stop r1 → stop r2 → enc x ++ r1 = enc y ++ r2 → x = y ∧ r1 = r2
/-- A row of them, each begun by the same word. -/
theorem Dec.row {α : Type} {enc : α → List Int} {stop out : List Int → Prop} {k : List Int} (h : Dec enc stop) (hk : ∀ x, ∃ t, enc x = k ++ t) (hs : ∀ (xs : List α) (r : List Int), out r → stop (xs.flatMap enc ++ r)) (hne : ∀ (r t : List Int), out r → r ≠ k ++ t) :
 Dec (fun xs : List α => xs.flatMap enc) out := by
 intro xs
 induction xs with
 | nil =>
   intro ys r1 r2 h1 h2 e
   cases ys with
   | nil => exact ⟨rfl, by simpa using e⟩
   | cons y ys =>
     obtain ⟨t, ht⟩ := hk y
     simp only [List.flatMap_nil, List.nil_append, List.flatMap_cons, ht, List.append_assoc] at e
     exact absurd e (hne r1 _ h1)
 | cons x xs ih =>
   intro ys r1 r2 h1 h2 e
   cases ys with
   | nil =>
     obtain ⟨t, ht⟩ := hk x
     simp only [List.flatMap_nil, List.nil_append, List.flatMap_cons, ht, List.append_assoc] at e
     exact absurd e.symm (hne r2 _ h2)
   | cons y ys =>
     simp only [List.flatMap_cons, List.append_assoc] at e
     obtain ⟨h3, h4⟩ := h x y _ _ (hs xs r1 h1) (hs ys r2 h2) e
     obtain ⟨h5, h6⟩ := ih ys r1 r2 h1 h2 h4
     exact ⟨by rw [h3, h5], h6⟩
def kFun : List Int := [102, 117, 110, 99, 116, 105, 111, 110]
def kNode : List Int := [10, 110, 111, 100, 101]
def kPhis : List Int := [10, 98, 108, 111, 99, 107, 32, 112, 104, 105, 115]
def kBody : List Int := [32, 98, 111, 100, 121]
def kSucc : List Int := [32, 115, 117, 99, 99]
def kPreds : List Int := [32, 112, 114, 101, 100, 115]
def kState : List Int := [10, 115, 116, 97, 116, 101]
def kLocals : List Int := [32, 108, 111, 99, 97, 108, 115]
def kStack : List Int := [32, 115, 116, 97, 99, 107]
def kVirt : List Int := [32, 118, 105, 114, 116, 117, 97, 108]
def kFields : List Int := [32, 102, 105, 101, 108, 100, 115]
def ndZ (T : Lib.PrintTabs) (x : Nd) : List Int := kNode ++ (numsZ [x.op, x.a, x.b, x.st] ++ (32 :: (Lib.quoteZ T x.kind ++ (32 :: (itoaZ x.n ++ (58 :: numsZ x.args))))))
def bkZ (b : Bk) : List Int := kPhis ++ (numsZ b.phis ++ (kBody ++ (numsZ b.body ++ (kSucc ++ (numsZ b.succ ++ (kPreds ++ numsZ b.preds))))))
def vtZ (v : Vt) : List Int := kVirt ++ (numsZ [v.cls] ++ (kFields ++ numsZ v.fields))
def steZ (s : Ste) : List Int := kState ++ (numsZ [s.mth, s.pc, s.up] ++ (kLocals ++ (numsZ s.locals ++ (kStack ++ (numsZ s.stack ++ s.virts.flatMap vtZ)))))
def textZ (T : Lib.PrintTabs) (f : Fn) : List Int := kFun ++ (numsZ [f.mth, f.entry] ++ (f.nodes.flatMap (ndZ T) ++ (f.blocks.flatMap bkZ ++ f.states.flatMap steZ)))
/-- What may stand behind a line: nothing, or the next line. -/
def Line (r : List Int) : Prop := r = [] ∨ ∃ t, r = 10 :: t
theorem Line.stop {r : List Int} (h : Line r) : StopL r := by
 rcases h with rfl | ⟨t, rfl⟩
 · exact stopL_nil
 · exact stopL_cons (by decide) (by decide)
theorem Line.row {α : Type} {enc : α → List Int} (hk : ∀ x, ∃ t, enc x = 10 :: t) (xs : List α) {r : List Int} (h : Line r) : Line (xs.flatMap enc ++ r) := by
 cases xs with
 | nil => exact h
 | cons x xs =>
   obtain ⟨t, ht⟩ := hk x
   exact .inr ⟨t ++ (xs.flatMap enc ++ r), by simp [ht]⟩
theorem ndZ_dec (T : Lib.PrintTabs) : Dec (ndZ T) Line := by
 intro x y r1 r2 h1 h2 e
 unfold ndZ at e
 simp only [List.append_assoc, List.cons_append] at e
 have e1 := List.append_cancel_left e
 obtain ⟨a1, e2⟩ := numsZ_dec (stopL_word (by decide) (by decide)) (stopL_word (by decide) (by decide)) (show numsZ [x.op, x.a, x.b, x.st] ++ (32 :: 34 :: _) = numsZ [y.op, y.a, y.b, y.st] ++ (32 :: 34 :: _) from e1)
 have e3 : Lib.quoteZ T x.kind ++ (32 :: (itoaZ x.n ++ (58 :: (numsZ x.args ++ r1)))) = Lib.quoteZ T y.kind ++ (32 :: (itoaZ y.n ++ (58 :: (numsZ y.args ++ r2)))) := by
  have := List.cons.inj e2
  exact this.2
 obtain ⟨a2, e4⟩ := quote_dec T _ _ _ _ e3
 simp only [List.cons.injEq, true_and] at e4
 obtain ⟨a3, e5⟩ := itoaZ_dec (stopL_cons (by decide) (by decide)).1 (stopL_cons (by decide) (by decide)).1 e4
 simp only [List.cons.injEq, true_and] at e5
 obtain ⟨a4, e6⟩ := numsZ_dec h1.stop h2.stop e5
 refine ⟨?_, e6⟩
 cases x
 cases y
 simp only [List.cons.injEq, and_true] at a1
 simp only at a2 a3 a4
 obtain ⟨b1, b2, b3, b4⟩ := a1
 simp only [b1, b2, b3, b4, a2, a3, a4]
theorem bkZ_dec : Dec bkZ Line := by
 intro x y r1 r2 h1 h2 e
 unfold bkZ at e
 simp only [List.append_assoc] at e
 have e1 := List.append_cancel_left e
 obtain ⟨a1, e2⟩ := numsZ_dec (stopL_word (by decide) (by decide)) (stopL_word (by decide) (by decide)) (show numsZ x.phis ++ (32 :: 98 :: _) = numsZ y.phis ++ (32 :: 98 :: _) from e1)
 have e3 := List.append_cancel_left (show kBody ++ _ = kBody ++ _ from e2)
 obtain ⟨a2, e4⟩ := numsZ_dec (stopL_word (by decide) (by decide)) (stopL_word (by decide) (by decide)) (show numsZ x.body ++ (32 :: 115 :: _) = numsZ y.body ++ (32 :: 115 :: _) from e3)
 have e5 := List.append_cancel_left (show kSucc ++ _ = kSucc ++ _ from e4)
 obtain ⟨a3, e6⟩ := numsZ_dec (stopL_word (by decide) (by decide)) (stopL_word (by decide) (by decide)) (show numsZ x.succ ++ (32 :: 112 :: _) = numsZ y.succ ++ (32 :: 112 :: _) from e5)
 have e7 := List.append_cancel_left (show kPreds ++ _ = kPreds ++ _ from e6)
 obtain ⟨a4, e8⟩ := numsZ_dec h1.stop h2.stop e7
 refine ⟨?_, e8⟩
 cases x
 cases y
 simp only at a1 a2 a3 a4
 simp only [a1, a2, a3, a4]
/-- What may stand behind a virtual object: a line's end, or the next one. -/
def VLine (r : List Int) : Prop := Line r ∨ ∃ t, r = kVirt ++ t
theorem VLine.stop {r : List Int} (h : VLine r) : StopL r := by
 rcases h with h | ⟨t, rfl⟩
 · exact h.stop
 · exact stopL_word (by decide) (by decide)
theorem vtZ_dec : Dec vtZ VLine := by
 intro x y r1 r2 h1 h2 e
 unfold vtZ at e
 simp only [List.append_assoc] at e
 have e1 := List.append_cancel_left e
 obtain ⟨a1, e2⟩ := numsZ_dec (stopL_word (by decide) (by decide)) (stopL_word (by decide) (by decide)) (show numsZ [x.cls] ++ (32 :: 102 :: _) = numsZ [y.cls] ++ (32 :: 102 :: _) from e1)
 have e3 := List.append_cancel_left (show kFields ++ _ = kFields ++ _ from e2)
 obtain ⟨a2, e4⟩ := numsZ_dec h1.stop h2.stop e3
 refine ⟨?_, e4⟩
 cases x
 cases y
 simp only [List.cons.injEq, and_true] at a1
 simp only at a2
 simp only [a1, a2]
theorem virts_dec : Dec (fun l : List Vt => l.flatMap vtZ) Line := by
 refine Dec.row vtZ_dec (k := kVirt) (fun x => ⟨_, rfl⟩) (fun xs r h => ?_) (fun r t h e => ?_)
 · cases xs with
   | nil => exact .inl h
   | cons x xs => exact .inr ⟨numsZ [x.cls] ++ (kFields ++ numsZ x.fields) ++ (xs.flatMap vtZ ++ r), by simp [vtZ]⟩
 · rcases h with rfl | ⟨t', rfl⟩
   · cases e
   · cases e
theorem virts_stop (l : List Vt) {r : List Int} (h : Line r) : StopL (l.flatMap vtZ ++ r) := by
 cases l with
 | nil => exact h.stop
 | cons v l =>
   simp only [List.flatMap_cons, vtZ, List.append_assoc]
   exact stopL_word (y := 118) (by decide) (by decide)
theorem steZ_dec : Dec steZ Line := by
 intro x y r1 r2 h1 h2 e
 unfold steZ at e
 simp only [List.append_assoc] at e
 have e1 := List.append_cancel_left e
 obtain ⟨a1, e2⟩ := numsZ_dec (stopL_word (by decide) (by decide)) (stopL_word (by decide) (by decide)) (show numsZ [x.mth, x.pc, x.up] ++ (32 :: 108 :: _) = numsZ [y.mth, y.pc, y.up] ++ (32 :: 108 :: _) from e1)
 have e3 := List.append_cancel_left (show kLocals ++ _ = kLocals ++ _ from e2)
 obtain ⟨a2, e4⟩ := numsZ_dec (stopL_word (by decide) (by decide)) (stopL_word (by decide) (by decide)) (show numsZ x.locals ++ (32 :: 115 :: _) = numsZ y.locals ++ (32 :: 115 :: _) from e3)
 have e5 := List.append_cancel_left (show kStack ++ _ = kStack ++ _ from e4)
 obtain ⟨a3, e6⟩ := numsZ_dec (virts_stop _ h1) (virts_stop _ h2) e5
 obtain ⟨a4, e7⟩ := virts_dec x.virts y.virts r1 r2 h1 h2 e6
 refine ⟨?_, e7⟩
 cases x
 cases y
 simp only [List.cons.injEq, and_true] at a1
 simp only at a2 a3 a4
 obtain ⟨b1, b2, b3⟩ := a1
 simp only [b1, b2, b3, a2, a3, a4]
theorem lines_nd (T : Lib.PrintTabs) (x : Nd) : ∃ t, ndZ T x = 10 :: t := ⟨_, rfl⟩
theorem lines_bk (x : Bk) : ∃ t, bkZ x = 10 :: t := ⟨_, rfl⟩
theorem lines_ste (x : Ste) : ∃ t, steZ x = 10 :: t := ⟨_, rfl⟩
/-- What may stand behind the blocks: nothing, or a state. -/
def SLine (r : List Int) : Prop := r = [] ∨ ∃ t, r = kState ++ t
def BLine (r : List Int) : Prop := SLine r ∨ ∃ t, r = kPhis ++ t
theorem SLine.line {r : List Int} (h : SLine r) : Line r := by
 rcases h with h | ⟨t, h⟩
 · exact .inl h
 · exact .inr ⟨_, h⟩
theorem BLine.line {r : List Int} (h : BLine r) : Line r := by
 rcases h with h | ⟨t, h⟩
 · exact h.line
 · exact .inr ⟨_, h⟩
theorem states_dec : Dec (fun l : List Ste => l.flatMap steZ) (fun r => r = []) :=
 Dec.row steZ_dec (k := kState) (fun x => ⟨_, rfl⟩) (fun xs r h => Line.row lines_ste xs (.inl h)) (fun r t h e => by subst h; cases e)
theorem states_line (l : List Ste) : SLine (l.flatMap steZ) := by
 cases l with
 | nil => exact .inl rfl
 | cons s l => exact .inr ⟨numsZ [s.mth, s.pc, s.up] ++ (kLocals ++ (numsZ s.locals ++ (kStack ++ (numsZ s.stack ++ s.virts.flatMap vtZ)))) ++ l.flatMap steZ, by simp [steZ]⟩
theorem blocks_dec : Dec (fun l : List Bk => l.flatMap bkZ) SLine :=
 Dec.row bkZ_dec (k := kPhis) (fun x => ⟨_, rfl⟩) (fun xs r h => Line.row lines_bk xs h.line) (fun r t h e => by
  subst e
  rcases h with h | ⟨t', h⟩
  · cases h
  · simp [kPhis, kState] at h)
theorem blocks_line (l : List Bk) {r : List Int} (h : SLine r) : BLine (l.flatMap bkZ ++ r) := by
 cases l with
 | nil => exact .inl h
 | cons b l => exact .inr ⟨numsZ b.phis ++ (kBody ++ (numsZ b.body ++ (kSucc ++ (numsZ b.succ ++ (kPreds ++ numsZ b.preds))))) ++ (l.flatMap bkZ ++ r), by simp [bkZ]⟩
theorem nodes_dec (T : Lib.PrintTabs) : Dec (fun l : List Nd => l.flatMap (ndZ T)) BLine :=
 Dec.row (ndZ_dec T) (k := kNode) (fun x => ⟨_, rfl⟩) (fun xs r h => Line.row (lines_nd T) xs h.line) (fun r t h e => by
  subst e
  rcases h with (h | ⟨t', h⟩) | ⟨t', h⟩
  · cases h
  · simp [kNode, kState] at h
  · simp [kNode, kPhis] at h)
/-- The same text, the same function. -/
theorem text_inj (T : Lib.PrintTabs) {f g : Fn} (e : textZ T f = textZ T g) : f = g := by
 unfold textZ at e
 have e1 := List.append_cancel_left e
 have st : ∀ f : Fn, StopL (f.nodes.flatMap (ndZ T) ++ (f.blocks.flatMap bkZ ++ f.states.flatMap steZ)) := fun f =>
  (Line.row (lines_nd T) f.nodes (Line.row lines_bk f.blocks (states_line f.states).line)).stop
 obtain ⟨a1, e2⟩ := numsZ_dec (st f) (st g) e1
 obtain ⟨a2, e3⟩ := nodes_dec T f.nodes g.nodes _ _ (blocks_line _ (states_line _)) (blocks_line _ (states_line _)) e2
 obtain ⟨a3, e4⟩ := blocks_dec f.blocks g.blocks _ _ (states_line _) (states_line _) e3
 obtain ⟨a4, -⟩ := states_dec f.states g.states [] [] rfl rfl (by simpa using e4)
 cases f
 cases g
 simp only [List.cons.injEq, and_true] at a1
 simp only at a2 a3 a4
 obtain ⟨b1, b2⟩ := a1
 simp only [b1, b2, a2, a3, a4]
end Go.Proofs.YtjjmpfmhggcjiaaGreatDoor
namespace Go.Proofs.YtjjmpfmhggcjiaaGreatDoor
open Go.RowKit Go.Maps
def Byt (l : List Int) : Prop := ∀ x ∈ l, 0 ≤ x ∧ x < 256
theorem Byt.nil : Byt [] := fun _ h => by cases h
theorem Byt.cons {x : Int} {l : List Int} (h0 : 0 ≤ x) (h1 : x < 256) (h : Byt l) : Byt (x :: l) := fun y hy => by
 rcases List.mem_cons.1 hy with rfl | hy
 · exact ⟨h0, h1⟩
 · exact h y hy
theorem Byt.app {l m : List Int} (h : Byt l) (h2 : Byt m) : Byt (l ++ m) := fun y hy => by
 rcases List.mem_append.1 hy with hy | hy
 · exact h y hy
 · exact h2 y hy
theorem byt_rune (r : Int) : Byt (Lib.encodeRuneZ r) := by
 unfold Lib.encodeRuneZ
 split
 · exact Byt.cons (by omega) (by omega) Byt.nil
 · split
   · exact Byt.cons (by omega) (by omega) (Byt.cons (by omega) (by omega) Byt.nil)
   · split
     · exact Byt.cons (by omega) (by omega) (Byt.cons (by omega) (by omega) (Byt.cons (by omega) (by omega) Byt.nil))
     · split
       · exact Byt.cons (by omega) (by omega) (Byt.cons (by omega) (by omega) (Byt.cons (by omega) (by omega) (Byt.cons (by omega) (by omega) Byt.nil)))
       · exact Byt.cons (by decide) (by decide) (Byt.cons (by decide) (by decide) (Byt.cons (by decide) (by decide) Byt.nil))
theorem hex_byt {x : Nat} (h : x < 16) : 0 ≤ Lib.hexDigit x ∧ Lib.hexDigit x < 256 := by
 unfold Lib.hexDigit
 split <;> omega
theorem byt_hexs (r : Nat) : ∀ n, Byt (Lib.hexDigits r n)
 | 0 => Byt.nil
 | n + 1 => Byt.cons (hex_byt (Nat.mod_lt _ (by decide))).1 (hex_byt (Nat.mod_lt _ (by decide))).2 (byt_hexs r n)
theorem byt_esc (T : Lib.PrintTabs) (r : Int) (h0 : 0 ≤ r) : Byt (Lib.escRune T r) := by
 have n : ∀ {c : Int}, 0 ≤ c → c < 256 → Byt [92, c] := fun a b => Byt.cons (by decide) (by decide) (Byt.cons a b Byt.nil)
 unfold Lib.escRune
 by_cases c0 : r = 34 ∨ r = 92
 · rw [if_pos c0]; exact n (by omega) (by omega)
 rw [if_neg c0]
 by_cases c1 : Lib.isPrintR T r = true
 · rw [if_pos c1]; exact byt_rune r
 rw [if_neg c1]
 by_cases c2 : r = 7
 · rw [if_pos c2]; exact n (by decide) (by decide)
 rw [if_neg c2]
 by_cases c3 : r = 8
 · rw [if_pos c3]; exact n (by decide) (by decide)
 rw [if_neg c3]
 by_cases c4 : r = 12
 · rw [if_pos c4]; exact n (by decide) (by decide)
 rw [if_neg c4]
 by_cases c5 : r = 10
 · rw [if_pos c5]; exact n (by decide) (by decide)
 rw [if_neg c5]
 by_cases c6 : r = 13
 · rw [if_pos c6]; exact n (by decide) (by decide)
 rw [if_neg c6]
 by_cases c7 : r = 9
 · rw [if_pos c7]; exact n (by decide) (by decide)
 rw [if_neg c7]
 by_cases c8 : r = 11
 · rw [if_pos c8]; exact n (by decide) (by decide)
 rw [if_neg c8]
 by_cases c9 : r < 32 ∨ r = 127
 · rw [if_pos c9]
   exact Byt.cons (by decide) (by decide) (Byt.cons (by decide) (by decide) (Byt.cons (hex_byt (by omega)).1 (hex_byt (by omega)).2 (Byt.cons (hex_byt (by omega)).1 (hex_byt (by omega)).2 Byt.nil)))
 rw [if_neg c9]
 by_cases c10 : Lib.validRune r = false
 · rw [if_pos c10]; exact Byt.cons (by decide) (by decide) (Byt.cons (by decide) (by decide) (byt_hexs _ _))
 rw [if_neg c10]
 by_cases c11 : r < 65536
 · rw [if_pos c11]; exact Byt.cons (by decide) (by decide) (Byt.cons (by decide) (by decide) (byt_hexs _ _))
 rw [if_neg c11]
 exact Byt.cons (by decide) (by decide) (Byt.cons (by decide) (by decide) (byt_hexs _ _))
theorem byt_step (T : Lib.PrintTabs) (s : ByteArray) : Byt (Lib.quoteStep T s) := by
 unfold Lib.quoteStep
 split
 · have := byte_lt s 0
   exact Byt.cons (by decide) (by decide) (Byt.cons (by decide) (by decide) (Byt.cons (hex_byt (by omega)).1 (hex_byt (by omega)).2 (Byt.cons (hex_byt (by omega)).1 (hex_byt (by omega)).2 Byt.nil)))
 · exact byt_esc T _ (by omega)
theorem byt_from (T : Lib.PrintTabs) : ∀ (f : Nat) (s : ByteArray), Byt (Lib.quoteFrom T f s)
 | 0, _ => Byt.nil
 | f + 1, s => by
   unfold Lib.quoteFrom
   split
   · exact (byt_step T s).app (byt_from T f _)
   · exact Byt.nil
theorem byt_quote (T : Lib.PrintTabs) (s : ByteArray) : Byt (Lib.quoteZ T s) := Byt.cons (by decide) (by decide) ((byt_from T _ s).app (Byt.cons (by decide) (by decide) Byt.nil))
theorem bytesZ_nums {l : List Int} (h : Byt l) : bytesZ (strOfNums l) = l := by
 unfold bytesZ
 rw [strOfNums_data, List.map_map]
 conv => rhs; rw [← List.map_id l]
 apply List.map_congr_left
 intro x hx
 have := h x hx
 simp
 omega
theorem bytesZ_itoa (n : Int) : bytesZ ⟨(Lib.itoa n).toArray⟩ = itoaZ n := by
 unfold bytesZ Lib.itoa itoaZ decZ
 split
 · simp
 · simp
theorem decZ_len (u : Nat) : ∀ k, u < 10 ^ (k + 1) → (decZ u).length ≤ k + 1 := by
 induction u using Nat.strongRecOn with
 | _ u ih =>
   intro k h
   by_cases h1 : u < 10
   · rw [decZ_small h1]; simp
   · rw [decZ_big h1]
     cases k with
     | zero => simp at h; omega
     | succ k =>
       have := ih (u / 10) (by omega) k (by rw [Nat.pow_succ] at h; omega)
       simp
       exact this
theorem itoaZ_len {n : Int} (h0 : -9223372036854775808 ≤ n) (h1 : n ≤ 9223372036854775807) : (itoaZ n).length ≤ 20 := by
 unfold itoaZ
 split
 · have := decZ_len n.natAbs 18 (by omega)
   simp
   omega
 · have := decZ_len n.toNat 18 (by omega)
   omega
def I64 (n : Int) : Prop := -9223372036854775808 ≤ n ∧ n ≤ 9223372036854775807
theorem numsZ_len {l : List Int} (h : ∀ x ∈ l, I64 x) : (numsZ l).length ≤ 21 * l.length := by
 induction l with
 | nil => simp [numsZ]
 | cons n l ih =>
   have a := itoaZ_len (h n List.mem_cons_self).1 (h n List.mem_cons_self).2
   have b := ih (fun x hx => h x (List.mem_cons_of_mem _ hx))
   rw [numsZ_cons]
   simp only [List.length_cons, List.length_append]
   omega
end Go.Proofs.YtjjmpfmhggcjiaaGreatDoor
namespace Go.Proofs.YtjjmpfmhggcjiaaGreatDoor
open Go.Shelf
def lays177_ren : Go.Shelf.Ren := ⟨fun | 177 => 57 | 250 => 104 | 289 => 147 | 197 => 183 | 323 => 184 | 260 => 212 | 339 => 213 | 340 => 214 | 242 => 215 | 119 => 216 | 345 => 232 | 346 => 233 | 278 => 234 | n => n, fun | 9 => 9 | 5 => 5 | 4 => 4 | 3 => 3 | 37 => 124 | 21 => 21 | 105 => 263 | 46 => 248 | 119 => 307 | 0 => 0 | 139 => 310 | 138 => 309 | 49 => 311 | 234 => 312 | 131 => 168 | 51 => 207 | 236 => 314 | n => n, fun | 3 => 15 | 4 => 16 | 20 => 17 | 21 => 18 | 22 => 19 | 23 => 20 | 24 => 21 | n => n⟩
theorem lays177 : Go.Proofs.Lays.n177 Tryz.prog lays177_ren := {
 mixed := by kernel_rfl
 f119 := Tryz.func216.trans (congrArg some (by kernel_rfl))
 f177 := Tryz.func57.trans (congrArg some (by kernel_rfl))
 f197 := Tryz.func183.trans (congrArg some (by kernel_rfl))
 f242 := Tryz.func215.trans (congrArg some (by kernel_rfl))
 f250 := Tryz.func104.trans (congrArg some (by kernel_rfl))
 f260 := Tryz.func212.trans (congrArg some (by kernel_rfl))
 f278 := Tryz.func234.trans (congrArg some (by kernel_rfl))
 f289 := Tryz.func147.trans (congrArg some (by kernel_rfl))
 f323 := Tryz.func184.trans (congrArg some (by kernel_rfl))
 f339 := Tryz.func213.trans (congrArg some (by kernel_rfl))
 f340 := Tryz.func214.trans (congrArg some (by kernel_rfl))
 f345 := Tryz.func232.trans (congrArg some (by kernel_rfl))
 f346 := Tryz.func233.trans (congrArg some (by kernel_rfl))
 t0 := Tryz.underlying0
 a0 := Tryz.isAgg0
 z0 := Tryz.sizeOf0
 v0 := Tryz.zeroValue0
 t3 := Tryz.underlying3
 a3 := Tryz.isAgg3
 z3 := Tryz.sizeOf3
 v3 := Tryz.zeroValue3
 t4 := Tryz.underlying4
 a4 := Tryz.isAgg4
 z4 := Tryz.sizeOf4
 v4 := Tryz.zeroValue4
 t5 := Tryz.underlying5
 a5 := Tryz.isAgg5
 z5 := Tryz.sizeOf5
 v5 := Tryz.zeroValue5
 t9 := Tryz.underlying9
 a9 := Tryz.isAgg9
 z9 := Tryz.sizeOf9
 v9 := Tryz.zeroValue9
 t21 := Tryz.underlying21
 a21 := Tryz.isAgg21
 z21 := Tryz.sizeOf21
 v21 := Tryz.zeroValue21
 t37 := Tryz.underlying124
 a37 := Tryz.isAgg124
 z37 := Tryz.sizeOf124
 v37 := Tryz.zeroValue124
 t46 := Tryz.underlying248
 a46 := Tryz.isAgg248
 z46 := Tryz.sizeOf248
 v46 := Tryz.zeroValue248
 t49 := Tryz.underlying311
 a49 := Tryz.isAgg311
 z49 := Tryz.sizeOf311
 v49 := Tryz.zeroValue311
 t51 := Tryz.underlying207
 a51 := Tryz.isAgg207
 z51 := Tryz.sizeOf207
 v51 := Tryz.zeroValue207
 t105 := Tryz.underlying263
 a105 := Tryz.isAgg263
 z105 := Tryz.sizeOf263
 v105 := Tryz.zeroValue263
 t119 := Tryz.underlying307
 a119 := Tryz.isAgg307
 z119 := Tryz.sizeOf307
 t131 := Tryz.underlying168
 a131 := Tryz.isAgg168
 z131 := Tryz.sizeOf168
 v131 := Tryz.zeroValue168
 t138 := Tryz.underlying309
 a138 := Tryz.isAgg309
 z138 := Tryz.sizeOf309
 v138 := Tryz.zeroValue309
 t139 := Tryz.underlying310
 a139 := Tryz.isAgg310
 z139 := Tryz.sizeOf310
 v139 := Tryz.zeroValue310
 t234 := Tryz.underlying312
 a234 := Tryz.isAgg312
 z234 := Tryz.sizeOf312
 v234 := Tryz.zeroValue312
 t236 := Tryz.underlying314
 a236 := Tryz.isAgg314
 z236 := Tryz.sizeOf314
 v236 := Tryz.zeroValue314
 g3 := by kernel_rfl
 g4 := by kernel_rfl
 g20 := by kernel_rfl
 g21 := by kernel_rfl
 g22 := by kernel_rfl
 g23 := by kernel_rfl
 g24 := by kernel_rfl }
def laysM171_ren : Go.Shelf.Ren := ⟨fun | 171 => 102 | 243 => 145 | 246 => 105 | 283 => 148 | 284 => 149 | 285 => 150 | 286 => 151 | 129 => 186 | 317 => 185 | 318 => 187 | 319 => 188 | 320 => 189 | 337 => 217 | 338 => 218 | n => n, fun | 3 => 3 | 9 => 9 | 2 => 2 | 4 => 4 | 171 => 229 | 0 => 0 | 53 => 230 | 37 => 124 | 5 => 5 | 173 => 233 | 212 => 267 | 51 => 207 | 20 => 20 | 213 => 268 | 46 => 248 | 232 => 316 | 233 => 317 | n => n, fun | 17 => 9 | 18 => 22 | 19 => 23 | n => n⟩
theorem laysM171 : Go.Proofs.LaysM.n171 Tryz.prog laysM171_ren := {
 mixed := by kernel_rfl
 f129 := Tryz.func186.trans (congrArg some (by kernel_rfl))
 f171 := Tryz.func102.trans (congrArg some (by kernel_rfl))
 f243 := Tryz.func145.trans (congrArg some (by kernel_rfl))
 f246 := Tryz.func105.trans (congrArg some (by kernel_rfl))
 f283 := Tryz.func148.trans (congrArg some (by kernel_rfl))
 f284 := Tryz.func149.trans (congrArg some (by kernel_rfl))
 f285 := Tryz.func150.trans (congrArg some (by kernel_rfl))
 f286 := Tryz.func151.trans (congrArg some (by kernel_rfl))
 f317 := Tryz.func185.trans (congrArg some (by kernel_rfl))
 f318 := Tryz.func187.trans (congrArg some (by kernel_rfl))
 f319 := Tryz.func188.trans (congrArg some (by kernel_rfl))
 f320 := Tryz.func189.trans (congrArg some (by kernel_rfl))
 f337 := Tryz.func217.trans (congrArg some (by kernel_rfl))
 f338 := Tryz.func218.trans (congrArg some (by kernel_rfl))
 t0 := Tryz.underlying0
 a0 := Tryz.isAgg0
 z0 := Tryz.sizeOf0
 v0 := Tryz.zeroValue0
 t2 := Tryz.underlying2
 a2 := Tryz.isAgg2
 z2 := Tryz.sizeOf2
 v2 := Tryz.zeroValue2
 t3 := Tryz.underlying3
 a3 := Tryz.isAgg3
 z3 := Tryz.sizeOf3
 v3 := Tryz.zeroValue3
 t4 := Tryz.underlying4
 a4 := Tryz.isAgg4
 z4 := Tryz.sizeOf4
 v4 := Tryz.zeroValue4
 t5 := Tryz.underlying5
 a5 := Tryz.isAgg5
 z5 := Tryz.sizeOf5
 v5 := Tryz.zeroValue5
 t9 := Tryz.underlying9
 a9 := Tryz.isAgg9
 z9 := Tryz.sizeOf9
 v9 := Tryz.zeroValue9
 t20 := Tryz.underlying20
 a20 := Tryz.isAgg20
 z20 := Tryz.sizeOf20
 v20 := Tryz.zeroValue20
 t37 := Tryz.underlying124
 a37 := Tryz.isAgg124
 z37 := Tryz.sizeOf124
 v37 := Tryz.zeroValue124
 t46 := Tryz.underlying248
 a46 := Tryz.isAgg248
 z46 := Tryz.sizeOf248
 v46 := Tryz.zeroValue248
 t51 := Tryz.underlying207
 a51 := Tryz.isAgg207
 z51 := Tryz.sizeOf207
 v51 := Tryz.zeroValue207
 t53 := Tryz.underlying230
 a53 := Tryz.isAgg230
 z53 := Tryz.sizeOf230
 v53 := Tryz.zeroValue230
 t171 := Tryz.underlying229
 a171 := Tryz.isAgg229
 z171 := Tryz.sizeOf229
 v171 := Tryz.zeroValue229
 t173 := Tryz.underlying233
 a173 := Tryz.isAgg233
 z173 := Tryz.sizeOf233
 v173 := Tryz.zeroValue233
 t212 := Tryz.underlying267
 a212 := Tryz.isAgg267
 z212 := Tryz.sizeOf267
 v212 := Tryz.zeroValue267
 t213 := Tryz.underlying268
 a213 := Tryz.isAgg268
 z213 := Tryz.sizeOf268
 t232 := Tryz.underlying316
 a232 := Tryz.isAgg316
 z232 := Tryz.sizeOf316
 v232 := Tryz.zeroValue316
 t233 := Tryz.underlying317
 a233 := Tryz.isAgg317
 z233 := Tryz.sizeOf317
 v233 := Tryz.zeroValue317
 g17 := by kernel_rfl
 g18 := by kernel_rfl
 g19 := by kernel_rfl
 i0 := by kernel_rfl
 i2 := by kernel_rfl
 i3 := by kernel_rfl
 i4 := by kernel_rfl
 i5 := by kernel_rfl
 i9 := by kernel_rfl
 i20 := by kernel_rfl
 i37 := by kernel_rfl
 i46 := by kernel_rfl
 i51 := by kernel_rfl
 i53 := by kernel_rfl
 i171 := by kernel_rfl
 i173 := by kernel_rfl
 i212 := by kernel_rfl
 i232 := by kernel_rfl
 i233 := by kernel_rfl
 m17 := by kernel_rfl
 m18 := by kernel_rfl
 m19 := by kernel_rfl }
def laysM173_ren : Go.Shelf.Ren := ⟨fun | 173 => 58 | 246 => 105 | 283 => 148 | 284 => 149 | 285 => 150 | 286 => 151 | 129 => 186 | 317 => 185 | 318 => 187 | 319 => 188 | 320 => 189 | 337 => 217 | 338 => 218 | n => n, fun | 2 => 2 | 3 => 3 | 9 => 9 | 4 => 4 | 171 => 229 | 0 => 0 | 53 => 230 | 37 => 124 | 5 => 5 | 173 => 233 | 212 => 267 | 51 => 207 | 20 => 20 | 213 => 268 | 46 => 248 | 232 => 316 | 233 => 317 | n => n, fun | 17 => 9 | 18 => 22 | 19 => 23 | n => n⟩
theorem laysM173 : Go.Proofs.LaysM.n173 Tryz.prog laysM173_ren := {
 mixed := by kernel_rfl
 f129 := Tryz.func186.trans (congrArg some (by kernel_rfl))
 f173 := Tryz.func58.trans (congrArg some (by kernel_rfl))
 f246 := Tryz.func105.trans (congrArg some (by kernel_rfl))
 f283 := Tryz.func148.trans (congrArg some (by kernel_rfl))
 f284 := Tryz.func149.trans (congrArg some (by kernel_rfl))
 f285 := Tryz.func150.trans (congrArg some (by kernel_rfl))
 f286 := Tryz.func151.trans (congrArg some (by kernel_rfl))
 f317 := Tryz.func185.trans (congrArg some (by kernel_rfl))
 f318 := Tryz.func187.trans (congrArg some (by kernel_rfl))
 f319 := Tryz.func188.trans (congrArg some (by kernel_rfl))
 f320 := Tryz.func189.trans (congrArg some (by kernel_rfl))
 f337 := Tryz.func217.trans (congrArg some (by kernel_rfl))
 f338 := Tryz.func218.trans (congrArg some (by kernel_rfl))
 t0 := Tryz.underlying0
 a0 := Tryz.isAgg0
 z0 := Tryz.sizeOf0
 v0 := Tryz.zeroValue0
 t2 := Tryz.underlying2
 a2 := Tryz.isAgg2
 z2 := Tryz.sizeOf2
 v2 := Tryz.zeroValue2
 t3 := Tryz.underlying3
 a3 := Tryz.isAgg3
 z3 := Tryz.sizeOf3
 v3 := Tryz.zeroValue3
 t4 := Tryz.underlying4
 a4 := Tryz.isAgg4
 z4 := Tryz.sizeOf4
 v4 := Tryz.zeroValue4
 t5 := Tryz.underlying5
 a5 := Tryz.isAgg5
 z5 := Tryz.sizeOf5
 v5 := Tryz.zeroValue5
 t9 := Tryz.underlying9
 a9 := Tryz.isAgg9
 z9 := Tryz.sizeOf9
 v9 := Tryz.zeroValue9
 t20 := Tryz.underlying20
 a20 := Tryz.isAgg20
 z20 := Tryz.sizeOf20
 v20 := Tryz.zeroValue20
 t37 := Tryz.underlying124
 a37 := Tryz.isAgg124
 z37 := Tryz.sizeOf124
 v37 := Tryz.zeroValue124
 t46 := Tryz.underlying248
 a46 := Tryz.isAgg248
 z46 := Tryz.sizeOf248
 v46 := Tryz.zeroValue248
 t51 := Tryz.underlying207
 a51 := Tryz.isAgg207
 z51 := Tryz.sizeOf207
 v51 := Tryz.zeroValue207
 t53 := Tryz.underlying230
 a53 := Tryz.isAgg230
 z53 := Tryz.sizeOf230
 v53 := Tryz.zeroValue230
 t171 := Tryz.underlying229
 a171 := Tryz.isAgg229
 z171 := Tryz.sizeOf229
 v171 := Tryz.zeroValue229
 t173 := Tryz.underlying233
 a173 := Tryz.isAgg233
 z173 := Tryz.sizeOf233
 v173 := Tryz.zeroValue233
 t212 := Tryz.underlying267
 a212 := Tryz.isAgg267
 z212 := Tryz.sizeOf267
 v212 := Tryz.zeroValue267
 t213 := Tryz.underlying268
 a213 := Tryz.isAgg268
 z213 := Tryz.sizeOf268
 t232 := Tryz.underlying316
 a232 := Tryz.isAgg316
 z232 := Tryz.sizeOf316
 v232 := Tryz.zeroValue316
 t233 := Tryz.underlying317
 a233 := Tryz.isAgg317
 z233 := Tryz.sizeOf317
 v233 := Tryz.zeroValue317
 g17 := by kernel_rfl
 g18 := by kernel_rfl
 g19 := by kernel_rfl
 i0 := by kernel_rfl
 i2 := by kernel_rfl
 i3 := by kernel_rfl
 i4 := by kernel_rfl
 i5 := by kernel_rfl
 i9 := by kernel_rfl
 i20 := by kernel_rfl
 i37 := by kernel_rfl
 i46 := by kernel_rfl
 i51 := by kernel_rfl
 i53 := by kernel_rfl
 i171 := by kernel_rfl
 i173 := by kernel_rfl
 i212 := by kernel_rfl
 i232 := by kernel_rfl
 i233 := by kernel_rfl
 m17 := by kernel_rfl
 m18 := by kernel_rfl
 m19 := by kernel_rfl }
open Go.RowKit
theorem below_grow {w : World} (q : Nat) (os : Array Obj) : Below w.heap.size w (Go.Sort.grow (w.drewN q) os) :=
 ⟨rfl, rfl, rfl, by simp [Go.Sort.grow], fun b hb => by
  show ((w.drewN q).heap ++ os)[b]? = _
  rw [Array.getElem?_append_left (by simpa using hb)]
  simp⟩
/-- The library's tables lie in this world. -/
structure Tabs (T : Lib.PrintTabs) (w : World) : Prop where
 pr : Lib.PrintTabsAt 17 18 19 20 T w
 ut : Lib.Utf8Tabs 15 16 w
 pw : Lib.TabIs Tryz.prog w "internal/strconv.uint64pow10" .u64 Lib.pow10Tab
theorem quote_any {T : Lib.PrintTabs} {w : World} (hT : Tabs T w) (s : ByteArray) (hlen : 10 * s.size + 12 ≤ 140737488355328) :
 Calls Tryz.prog 57 #[.string s] w fun e w' => e = .returned (.string (strOfNums (Lib.quoteZ T s))) ∧ Below w.heap.size w w' := Any.strconv_Quote lays177 (by kernel_rfl) T s w hlen hT.pr hT.ut
theorem itoa_any {T : Lib.PrintTabs} {w : World} (hT : Tabs T w) (n : Int) (h : I64 n) :
 Calls Tryz.prog 102 #[.int .i64 n] w fun e w' => e = .returned (.string ⟨(Lib.itoa n).toArray⟩) ∧ Below w.heap.size w w' := by
 refine (Any.strconv_Itoa laysM171 n h.1 h.2 w hT.pw).mono ?_
 rintro e w' ⟨rfl, q, os, rfl⟩
 exact ⟨rfl, below_grow q os⟩
theorem fmt_any {T : Lib.PrintTabs} {w : World} (hT : Tabs T w) (n : Int) (h : I64 n) :
 Calls Tryz.prog 58 #[.int .i64 n, .int .i64 10] w fun e w' => e = .returned (.string ⟨(Lib.itoa n).toArray⟩) ∧ Below w.heap.size w w' := by
 refine (Any.strconv_FormatInt_10 laysM173 n h.1 h.2 w hT.pw).mono ?_
 rintro e w' ⟨rfl, q, os, rfl⟩
 exact ⟨rfl, below_grow q os⟩
end Go.Proofs.YtjjmpfmhggcjiaaGreatDoor
namespace Go.Proofs.YtjjmpfmhggcjiaaGreatDoor
open Go.RowKit Go.Maps Go.Lib
theorem tabIs_of_reads {P : Program} {W : World} {name : String} {k : IntKind} {zs : List Int} {g : Nat} {t e : TypeId} {n : Nat}
 (hg : P.globalNamed name = some g) (hty : (P.globals[g]?).map (·.type) = some t) (ht : P.underlying t = some (.array n e)) (he : P.underlying e = some (.int k)) (hce : P.cellsOf e = 1) (hct : P.cellsOf t = n)
 (h : VarReads P W name (tabData k zs)) : TabIs P W name k zs := by
 obtain ⟨g', t', cs, fuel, p, hg', ht', hvar, hd⟩ := h
 obtain rfl := Option.some.inj (hg.symm.trans hg')
 obtain rfl := Option.some.inj (hty.symm.trans ht')
 unfold TabIs
 rw [hvar, ← cells_of_tab ht he hce hct hd]
theorem tabs_of_laid {W : World} (h : laidMetH Tryz.prog Rows.ssaSameRow.laid W) : Tabs Lib.goPrintTabs W := by
 rw [MakeChecks.laidMetH_plain _ _ _ (by kernel_rfl)] at h
 have hm : ∀ {n : String} {d : DataW Unit}, (n, d) ∈ Rows.ssaSameRow.laid → VarReads Tryz.prog W n d := fun hx => Lib.laidMet.reads h hx
 refine ⟨?_, ?_, ?_⟩
 · exact printTabs_of_reads (ρ := lays177_ren) { lays177 with } ⟨by kernel_rfl, by kernel_rfl, by kernel_rfl, by kernel_rfl, by kernel_rfl, by kernel_rfl, by kernel_rfl, by kernel_rfl, by kernel_rfl, by kernel_rfl⟩
    (hm (List.mem_of_getElem? (i := 21) (by kernel_rfl))) (hm (List.mem_of_getElem? (i := 19) (by kernel_rfl))) (hm (List.mem_of_getElem? (i := 22) (by kernel_rfl))) (hm (List.mem_of_getElem? (i := 20) (by kernel_rfl)))
 · exact utf8Tabs_of_reads (ρ := lays177_ren) { lays177 with } ⟨by kernel_rfl, by kernel_rfl, by kernel_rfl, by kernel_rfl, by kernel_rfl, by kernel_rfl, by kernel_rfl⟩ (hm (List.mem_of_getElem? (i := 23) (by kernel_rfl))) (hm (List.mem_of_getElem? (i := 3) (by kernel_rfl)))
 · exact tabIs_of_reads (g := 9) (t := 267) (e := 230) (n := 20) (by kernel_rfl) (by kernel_rfl) (by kernel_rfl) (by kernel_rfl) (by kernel_rfl) (by kernel_rfl) (hm (List.mem_of_getElem? (i := 2) (by kernel_rfl)))
end Go.Proofs.YtjjmpfmhggcjiaaGreatDoor
