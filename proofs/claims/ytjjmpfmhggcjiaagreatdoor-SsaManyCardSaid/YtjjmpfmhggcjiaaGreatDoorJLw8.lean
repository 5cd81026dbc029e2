/-
 Lw1, Lw0, Lw5, Lw6, Lw7, Lw8.
-/
import Derived.Test.YtjjmpfmhggcjiaaGreatDoorJRl3
set_option linter.unusedSimpArgs false
set_option linter.unusedVariables false
namespace Go.Proofs.YtjjmpfmhggcjiaaGreatDoor
open Go.RowKit Go.Maps
def MOnePost (W : World) (e : Ending) (w' : World) : Prop :=
 ∃ gv A1 n1 c1 A2 n2 c2 A3 n3 c3, e = .returned (.tuple #[.pointer (some ⟨gv, 0, none⟩), .agg #[.slice A1 n1 c1, .slice A2 n2 c2, .slice A3 n3 c3], .bool true]) ∧ (∃ S, InfoG w' S gv oneP oneVs ∧ ∀ b, S b → W.heap.size ≤ b) ∧ W.heap.size ≤ gv ∧ gv < w'.heap.size ∧ Below W.heap.size W w'
theorem made_one (a : Nat → Addr) (B : Nat) (W : World) (hs : Sent W B all14 a) (hB : B ≤ W.heap.size) (gm : Nat) (hP : RdP W W.heap.size none (some ⟨gm, 0, none⟩) oneP) :
 Calls Tryz.prog 23 #[.agg #[.slice none 0 0, .slice (some ⟨gm, 0, none⟩) 1 1]] W (MOnePost W) := by
 refine (show Calls Tryz.prog 23 #[.agg #[.slice none 0 0, .slice (some ⟨gm, 0, none⟩) 1 1]] W (MadePost W oneP) from made_any a B W hs hB none (some ⟨gm, 0, none⟩) 0 1 oneP hP one_pok).mono ?_
 rintro e w' ⟨v, x, b, rfl, ⟨A1, n1, c1, A2, n2, c2, A3, n3, c3, rfl⟩, -, h, hb⟩
 obtain ⟨rfl, gv, S, rfl, ⟨Ac, cc, Am, cm, Al, cl, hI⟩, hgv, hS⟩ := h oneVs one_light one_ver
 exact ⟨gv, A1, n1, c1, A2, n2, c2, A3, n3, c3, rfl, ⟨S, ⟨Ac, cc, Am, cm, Al, cl, 0, hI⟩, hS⟩, hgv, hI.blk.lt, hb⟩
end Go.Proofs.YtjjmpfmhggcjiaaGreatDoor
namespace Go.Proofs.YtjjmpfmhggcjiaaGreatDoor
open Go.RowKit Go.Maps
theorem own_cast {w : World} {z : Nat} {T : TypeId} {size n m c : Nat} {A : Option Addr} {xs ys : List Value} (h : w.ownsRow z T size (.slice A n c) n xs) (e : n = m) (e2 : xs = ys) : w.ownsRow z T size (.slice A m c) m ys := by
 subst e e2
 exact h
section
variable {wr w' w3 : World} {z : Nat} {X Y : Nat → Prop} {ns : List Nd} {hs : List (Option Addr × Nat)} {A A3 : Option Addr} {c c3 : Nat}
end
end Go.Proofs.YtjjmpfmhggcjiaaGreatDoor
namespace Go.Proofs.YtjjmpfmhggcjiaaGreatDoor
open Go.RowKit Go.Maps
section
variable {w w3 : World} {z gB gF cn cb c3 : Nat} {An Ab A3 : Option Addr} {ns : List Nd} {ks : List Int} {hs : List (Option Addr × Nat)}
end
end Go.Proofs.YtjjmpfmhggcjiaaGreatDoor
namespace Go.Proofs.YtjjmpfmhggcjiaaGreatDoor
open Go.RowKit Go.Maps
structure SRow {α : Type} (s : Shape α) (T : TypeId) (wr : World) (z : Nat) (X : Nat → Prop) (l : List α) (hs : List s.H) (A : Option Addr) (c : Nat) : Prop where
 len : hs.length = l.length
 own : wr.ownsRow z T s.size (.slice A l.length c) l.length (s.cells l hs)
 inn : ∀ (k : Nat) (x : α) (h : s.H), l[k]? = some x → hs[k]? = some h → s.inner (fun b => z ≤ b ∧ b < wr.heap.size ∧ ¬ X b ∧ A.map (·.block) ≠ some b) wr x h
 out : ∀ g, A.map (·.block) = some g → ¬ X g
section
variable {α : Type} {s : Shape α} {T : TypeId} {wr w' w3 : World} {z : Nat} {X Y : Nat → Prop} {l : List α} {hs : List s.H} {A A3 B B3 : Option Addr} {c c3 : Nat}
theorem SRow.kb (R : SRow s T wr z X l hs A c) (hk : KB (fun b => z ≤ b ∧ b < wr.heap.size ∧ ¬ X b) wr w') (hz : wr.heap.size ≤ w'.heap.size) : SRow s T w' z X l hs A c := by
 have hA : ∀ g, A.map (·.block) = some g → z ≤ g ∧ g < wr.heap.size := fun g hg => R.own.lt g (by rw [slice_block]; exact hg)
 refine ⟨R.len, own_kb R.own (fun g hg => ?_), fun k x h e1 e2 => ?_, R.out⟩
 · rw [slice_block] at hg
   have := hA g hg
   exact hk g ⟨this.1, this.2, R.out g hg⟩
 · exact s.more (s.keep (R.inn k x h e1 e2) (hk.kept.sub (fun b hb => ⟨hb.1, hb.2.1, hb.2.2.1⟩))) (fun b hb => ⟨hb.1, by omega, hb.2.2⟩)
theorem SRow.snoc (R : SRow s T wr z X l hs A c) (x : α) (h : s.H) (hin : s.inner (fun b => z ≤ b ∧ b < wr.heap.size ∧ ¬ X b ∧ A.map (·.block) ≠ some b) wr x h)
 (own3 : w3.ownsRow z T s.size (.slice A3 (l.length + 1) c3) (l.length + 1) (s.cells l hs ++ s.cell x h)) (hg : wr.grownBy w3 (Value.slice A l.length c).ownBlock)
 (hat : (Value.slice A3 (l.length + 1) c3).ownBlock = (Value.slice A l.length c).ownBlock ∨ (Value.slice A3 (l.length + 1) c3).ownBlock = some wr.heap.size) (hX : ¬ X wr.heap.size) : SRow s T w3 z X (l ++ [x]) (hs ++ [h]) A3 c3 := by
 have hl := R.len
 have hsz := hg.size
 rw [slice_block, slice_block] at hat
 rw [slice_block] at hg
 have K := Kept.grown (Kept.refl (fun b => z ≤ b ∧ b < wr.heap.size ∧ ¬ X b ∧ A.map (·.block) ≠ some b) wr) hg (fun b hb => hb.2.1) (fun b hb e => hb.2.2.2 e.symm)
 have key : ∀ (x : α) h, s.inner (fun b => z ≤ b ∧ b < wr.heap.size ∧ ¬ X b ∧ A.map (·.block) ≠ some b) wr x h → s.inner (fun b => z ≤ b ∧ b < w3.heap.size ∧ ¬ X b ∧ A3.map (·.block) ≠ some b) w3 x h := fun x h hi =>
  s.more (s.keep hi K) (fun b hb => ⟨hb.1, by omega, hb.2.2.1, fun e => by
   rcases hat with h5 | h5
   · exact hb.2.2.2 (by rw [← h5]; exact e)
   · rw [h5] at e
     have := Option.some.inj e
     omega⟩)
 refine ⟨by simp [hl], ?_, fun k x' h' e1 e2 => ?_, fun g hg' e => ?_⟩
 · have e := cells_snoc s (l := l) (hs := hs) hl x h
   exact own_cast own3 (by simp) e.symm
 · by_cases hk : k < l.length
   · rw [List.getElem?_append_left hk] at e1
     rw [List.getElem?_append_left (by omega)] at e2
     exact key _ _ (R.inn k x' h' e1 e2)
   · have h4 := (List.getElem?_eq_some_iff.1 e1).1
     simp at h4
     have e3 : k = l.length := by omega
     subst e3
     rw [List.getElem?_append_right (Nat.le_refl _)] at e1
     rw [← hl, List.getElem?_append_right (Nat.le_refl _)] at e2
     simp at e1 e2
     subst e1 e2
     exact key _ _ hin
 · rcases hat with h5 | h5
   · exact R.out g (by rw [← h5]; exact hg') e
   · rw [h5] at hg'
     have := Option.some.inj hg'
     subst this
     exact hX e
/-- A block, and another row's. -/
def X2 (gF : Nat) (B : Option Addr) (b : Nat) : Prop := b = gF ∨ B.map (·.block) = some b
theorem SRow.rd (R : SRow s T wr z X l hs A c) : RdL s wr (fun b => z ≤ b ∧ b < wr.heap.size) A l := by
 refine ⟨hs, R.len, rds_own R.own (fun g _ h1 h2 => ⟨h1, h2⟩), fun k x h e1 e2 => s.more (R.inn k x h e1 e2) (fun b hb => ⟨hb.1, hb.2.1⟩)⟩
end
end Go.Proofs.YtjjmpfmhggcjiaaGreatDoor
namespace Go.Proofs.YtjjmpfmhggcjiaaGreatDoor
open Go.RowKit Go.Maps
def X3 (gF : Nat) (P : Nat → Prop) (B : Option Addr) (b : Nat) : Prop := b = gF ∨ B.map (·.block) = some b ∨ P b
section
variable {α : Type} {s : Shape α} {T : TypeId} {wr w' w3 : World} {z gF : Nat} {X Y P P' : Nat → Prop} {l : List α} {hs : List s.H} {A B B3 : Option Addr} {c : Nat}
theorem SRow.move (R : SRow s T wr z X l hs A c) (hk : KB (fun b => z ≤ b ∧ b < wr.heap.size ∧ ¬ X b) wr w') (hz : wr.heap.size ≤ w'.heap.size) (hY : ∀ b, b < wr.heap.size → ¬ X b → ¬ Y b) : SRow s T w' z Y l hs A c := by
 have hA : ∀ g, A.map (·.block) = some g → z ≤ g ∧ g < wr.heap.size := fun g hg => R.own.lt g (by rw [slice_block]; exact hg)
 have R2 := R.kb hk hz
 refine ⟨R.len, R2.own, fun k x h e1 e2 => ?_, fun g hg => hY g (hA g hg).2 (R.out g hg)⟩
 exact s.more (s.keep (R.inn k x h e1 e2) (hk.kept.sub (fun b hb => ⟨hb.1, hb.2.1, hb.2.2.1⟩))) (fun b hb => ⟨hb.1, by omega, hY b hb.2.1 hb.2.2.1, hb.2.2.2⟩)
theorem x3_new {n : Nat} (hat : B3.map (·.block) = B.map (·.block) ∨ B3.map (·.block) = some n) : ∀ b, b < n → ¬ X3 gF P B b → ¬ X3 gF P B3 b := fun b hb h e => by
 rcases e with e | e | e
 · exact h (.inl e)
 · rcases hat with h5 | h5
   · exact h (.inr (.inl (by rw [← h5]; exact e)))
   · rw [h5] at e
     have := Option.some.inj e
     omega
 · exact h (.inr (.inr e))
end
structure Many (w : World) (z gF : Nat) (P : Nat → Prop) (ns : List Nd) (bs : List Bk) (cn cb : Nat) (An Ab : Option Addr) (hn : List (Option Addr × Nat)) (hb : List H4) : Prop where
 fn : Blk w gF 30 #[.int .i64 0, .int .i64 0, .slice An ns.length cn, .slice Ab bs.length cb, .slice none 0 0]
 nds : SRow ndShape 59 w z (X3 gF P Ab) ns hn An cn
 bks : SRow bkShape 61 w z (X3 gF P An) bs hb Ab cb
 zF : z ≤ gF
 pF : ¬ P gF
section
variable {w w' w3 : World} {z gF cn cb c3 : Nat} {P P' : Nat → Prop} {An Ab A3 : Option Addr} {ns : List Nd} {bs : List Bk} {hn : List (Option Addr × Nat)} {hb : List H4}
theorem Many.move (M : Many w z gF P ns bs cn cb An Ab hn hb) (hk : KB (fun b => z ≤ b ∧ b < w.heap.size ∧ ¬ P b) w w') (hz : w.heap.size ≤ w'.heap.size) (hP : ∀ b, b < w.heap.size → ¬ P b → ¬ P' b) : Many w' z gF P' ns bs cn cb An Ab hn hb := by
 have lF := M.fn.lt
 have hx : ∀ B b, b < w.heap.size → ¬ X3 gF P B b → ¬ X3 gF P' B b := fun B b hb h e => by
  rcases e with e | e | e
  · exact h (.inl e)
  · exact h (.inr (.inl e))
  · exact hP b hb (fun e => h (.inr (.inr e))) e
 exact ⟨M.fn.kb hk ⟨M.zF, lF, M.pF⟩, M.nds.move (hk.sub (fun b hb => ⟨hb.1, hb.2.1, fun e => hb.2.2 (.inr (.inr e))⟩)) hz (hx _), M.bks.move (hk.sub (fun b hb => ⟨hb.1, hb.2.1, fun e => hb.2.2 (.inr (.inr e))⟩)) hz (hx _), M.zF, hP _ lF M.pF⟩
/-- A node more. -/
theorem Many.node (M : Many w z gF P ns bs cn cb An Ab hn hb) (x : Nd) (h : Option Addr × Nat) (hz : z ≤ w.heap.size) (hPl : ∀ b, P b → b < w.heap.size)
 (hin : ndShape.inner (fun b => z ≤ b ∧ b < w.heap.size ∧ ¬ X3 gF P Ab b ∧ An.map (·.block) ≠ some b) w x h)
 (own3 : w3.ownsRow z 59 7 (.slice A3 (ns.length + 1) c3) (ns.length + 1) (ndShape.cells ns hn ++ ndShape.cell x h))
 (hg : (w.alloc (.cells ⟨ndShape.cell x h⟩ 59)).grownBy w3 (Value.slice An ns.length cn).ownBlock)
 (hat : (Value.slice A3 (ns.length + 1) c3).ownBlock = (Value.slice An ns.length cn).ownBlock ∨ (Value.slice A3 (ns.length + 1) c3).ownBlock = some (w.alloc (.cells ⟨ndShape.cell x h⟩ 59)).heap.size) :
 Many (w3.setCell ⟨gF, 2, none⟩ (.slice A3 (ns.length + 1) c3)) z gF P (ns ++ [x]) bs c3 cb A3 Ab (hn ++ [h]) hb ∧ KB P w (w3.setCell ⟨gF, 2, none⟩ (.slice A3 (ns.length + 1) c3)) ∧ w.heap.size ≤ (w3.setCell ⟨gF, 2, none⟩ (.slice A3 (ns.length + 1) c3)).heap.size ∧ (∀ {B : Nat} {w0 : World}, Below B w0 w → B ≤ z → Below B w0 (w3.setCell ⟨gF, 2, none⟩ (.slice A3 (ns.length + 1) c3))) := by
 have lF := M.fn.lt
 have hO : ∀ g, Ab.map (·.block) = some g → z ≤ g ∧ g < w.heap.size := fun g hg => M.bks.own.lt g (by rw [slice_block]; exact hg)
 have hN : ∀ g, An.map (·.block) = some g → z ≤ g ∧ g < w.heap.size := fun g hg => M.nds.own.lt g (by rw [slice_block]; exact hg)
 have nF : An.map (·.block) ≠ some gF := fun e => M.nds.out gF e (.inl rfl)
 have nO : ∀ g, Ab.map (·.block) = some g → An.map (·.block) ≠ some g := fun g hg e => M.nds.out g e (.inr (.inl hg))
 have nP : ∀ g, P g → An.map (·.block) ≠ some g := fun g hg e => M.nds.out g e (.inr (.inr hg))
 have e2 : (w.alloc (.cells ⟨ndShape.cell x h⟩ 59)).heap.size = w.heap.size + 1 := by simp
 have K2 : ∀ {S : Nat → Prop}, (∀ b, S b → b < w.heap.size) → KB S w (w.alloc (.cells ⟨ndShape.cell x h⟩ 59)) := fun h => (KB.refl _ _).alloc h _
 have B2 : Below w.heap.size w (w.alloc (.cells ⟨ndShape.cell x h⟩ 59)) := (Below.refl _ w).alloc (Nat.le_refl _) _
 have R2 := M.nds.kb (K2 (fun b hb => hb.2.1)) (by omega)
 have Q2 := M.bks.kb (K2 (fun b hb => hb.2.1)) (by omega)
 have F2 := M.fn.alloc (.cells ⟨ndShape.cell x h⟩ 59)
 have hin2 := ndShape.more (ndShape.keep hin (K2 (fun b hb => hb.2.1)).kept) (S' := fun b => z ≤ b ∧ b < (w.alloc (.cells ⟨ndShape.cell x h⟩ 59)).heap.size ∧ ¬ X3 gF P Ab b ∧ An.map (·.block) ≠ some b) (fun b hb => ⟨hb.1, by have := hb.2.1; omega, hb.2.2⟩)
 generalize w.alloc (.cells ⟨ndShape.cell x h⟩ 59) = w2 at *
 have hX : ¬ X3 gF P Ab w2.heap.size := fun e => by
  rcases e with e | e | e
  · omega
  · have := (hO _ e).2
    omega
  · have := hPl _ e
    omega
 have R3 := R2.snoc x h hin2 own3 hg hat hX
 rw [slice_block] at hg
 rw [slice_block, slice_block] at hat
 have hs3 := hg.size
 have F3 := F2.grown hg (Ne.symm nF)
 have Q3 := Q2.move (KB.of_grown hg (fun b hb => hb.2.1) (fun b hb e => hb.2.2 (.inr (.inl e.symm)))) hs3 (x3_new hat)
 refine ⟨⟨?_, ?_, ?_, M.zF, M.pF⟩, ?_, by simp; omega, fun hb hB => ?_⟩
 · have h := F3.set_ 2 (.slice A3 (ns.length + 1) c3)
   simpa using h
 · exact R3.kb ((KB.refl _ _).set (p := ⟨gF, 2, none⟩) (fun h => h.2.2 (.inl rfl)) _) (by simp)
 · exact Q3.kb ((KB.refl _ _).set (p := ⟨gF, 2, none⟩) (fun h => h.2.2 (.inl rfl)) _) (by simp)
 · exact ((K2 hPl).grown hg (fun b hb => by have := hPl b hb; omega) (fun b hb e => nP b hb e.symm)).set (p := ⟨gF, 2, none⟩) M.pF _
 · have hsz := hb.size
   exact ((hb.trans (B2.mono (by omega))).grown hg (by omega) (fun j hj => by have := (hN j hj).1; omega)).setCell (p := ⟨gF, 2, none⟩) (Nat.le_trans hB M.zF) _
/-- A block more. -/
theorem Many.block (M : Many w z gF P ns bs cn cb An Ab hn hb) (x : Bk) (h : H4) (hz : z ≤ w.heap.size) (hPl : ∀ b, P b → b < w.heap.size)
 (hin : bkShape.inner (fun b => z ≤ b ∧ b < w.heap.size ∧ ¬ X3 gF P An b ∧ Ab.map (·.block) ≠ some b) w x h)
 (own3 : w3.ownsRow z 61 4 (.slice A3 (bs.length + 1) c3) (bs.length + 1) (bkShape.cells bs hb ++ bkShape.cell x h))
 (hg : (w.alloc (.cells ⟨bkShape.cell x h⟩ 61)).grownBy w3 (Value.slice Ab bs.length cb).ownBlock)
 (hat : (Value.slice A3 (bs.length + 1) c3).ownBlock = (Value.slice Ab bs.length cb).ownBlock ∨ (Value.slice A3 (bs.length + 1) c3).ownBlock = some (w.alloc (.cells ⟨bkShape.cell x h⟩ 61)).heap.size) :
 Many (w3.setCell ⟨gF, 3, none⟩ (.slice A3 (bs.length + 1) c3)) z gF P ns (bs ++ [x]) cn c3 An A3 hn (hb ++ [h]) ∧ w.heap.size ≤ (w3.setCell ⟨gF, 3, none⟩ (.slice A3 (bs.length + 1) c3)).heap.size ∧ (∀ {B : Nat} {w0 : World}, Below B w0 w → B ≤ z → Below B w0 (w3.setCell ⟨gF, 3, none⟩ (.slice A3 (bs.length + 1) c3))) := by
 have lF := M.fn.lt
 have hO : ∀ g, Ab.map (·.block) = some g → z ≤ g ∧ g < w.heap.size := fun g hg => M.bks.own.lt g (by rw [slice_block]; exact hg)
 have hN : ∀ g, An.map (·.block) = some g → z ≤ g ∧ g < w.heap.size := fun g hg => M.nds.own.lt g (by rw [slice_block]; exact hg)
 have nF : Ab.map (·.block) ≠ some gF := fun e => M.bks.out gF e (.inl rfl)
 have e2 : (w.alloc (.cells ⟨bkShape.cell x h⟩ 61)).heap.size = w.heap.size + 1 := by simp
 have K2 : ∀ {S : Nat → Prop}, (∀ b, S b → b < w.heap.size) → KB S w (w.alloc (.cells ⟨bkShape.cell x h⟩ 61)) := fun h => (KB.refl _ _).alloc h _
 have B2 : Below w.heap.size w (w.alloc (.cells ⟨bkShape.cell x h⟩ 61)) := (Below.refl _ w).alloc (Nat.le_refl _) _
 have R2 := M.nds.kb (K2 (fun b hb => hb.2.1)) (by omega)
 have Q2 := M.bks.kb (K2 (fun b hb => hb.2.1)) (by omega)
 have F2 := M.fn.alloc (.cells ⟨bkShape.cell x h⟩ 61)
 have hin2 := bkShape.more (bkShape.keep hin (K2 (fun b hb => hb.2.1)).kept) (S' := fun b => z ≤ b ∧ b < (w.alloc (.cells ⟨bkShape.cell x h⟩ 61)).heap.size ∧ ¬ X3 gF P An b ∧ Ab.map (·.block) ≠ some b) (fun b hb => ⟨hb.1, by have := hb.2.1; omega, hb.2.2⟩)
 generalize w.alloc (.cells ⟨bkShape.cell x h⟩ 61) = w2 at *
 have hX : ¬ X3 gF P An w2.heap.size := fun e => by
  rcases e with e | e | e
  · omega
  · have := (hN _ e).2
    omega
  · have := hPl _ e
    omega
 have Q3 := Q2.snoc x h hin2 own3 hg hat hX
 rw [slice_block] at hg
 rw [slice_block, slice_block] at hat
 have hs3 := hg.size
 have F3 := F2.grown hg (Ne.symm nF)
 have R3 := R2.move (KB.of_grown hg (fun b hb => hb.2.1) (fun b hb e => hb.2.2 (.inr (.inl e.symm)))) hs3 (x3_new hat)
 refine ⟨⟨?_, ?_, ?_, M.zF, M.pF⟩, by simp; omega, fun hb hB => ?_⟩
 · have h := F3.set_ 3 (.slice A3 (bs.length + 1) c3)
   simpa using h
 · exact R3.kb ((KB.refl _ _).set (p := ⟨gF, 3, none⟩) (fun h => h.2.2 (.inl rfl)) _) (by simp)
 · exact Q3.kb ((KB.refl _ _).set (p := ⟨gF, 3, none⟩) (fun h => h.2.2 (.inl rfl)) _) (by simp)
 · have hsz := hb.size
   exact ((hb.trans (B2.mono (by omega))).grown hg (by omega) (fun j hj => by have := (hO j hj).1; omega)).setCell (p := ⟨gF, 3, none⟩) (Nat.le_trans hB M.zF) _
theorem Many.rdf (M : Many w z gF P ns bs cn cb An Ab hn hb) : RdF w (fun b => z ≤ b ∧ b < w.heap.size) An Ab none ⟨0, 0, ns, bs, []⟩ := ⟨M.nds.rd, M.bks.rd, RdL.nil _ _ _ _⟩
end
end Go.Proofs.YtjjmpfmhggcjiaaGreatDoor
namespace Go.Proofs.YtjjmpfmhggcjiaaGreatDoor
open Go.RowKit Go.Maps
theorem SRow.nil {α : Type} (s : Shape α) (T : TypeId) (w : World) (z : Nat) (X : Nat → Prop) : SRow s T w z X [] [] none 0 := ⟨rfl, World.ownsRow_nil _ _ _ _, fun k x h e => (by cases e), fun g hg => (by cases hg)⟩
structure Mid (w : World) (z gF gB m : Nat) (ns : List Nd) (bs : List Bk) (cn cb : Nat) (An Ab : Option Addr) (hn : List (Option Addr × Nat)) (hb : List H4) (body succ preds : List Int) (Bb : Option Addr) (cB : Nat) (sA pA : Option Addr) (sc pc : Nat) (pl : List Nat) : Prop where
 many : Many w z gF (fun b => b ∈ pl) ns bs cn cb An Ab hn hb
 bv : Blk w gB 61 #[.slice none 0 0, .slice Bb body.length cB, .slice sA succ.length sc, .slice pA preds.length pc]
 inB : gB ∈ pl
 rng : ∀ b, b ∈ pl → m ≤ b ∧ b < w.heap.size
 own : w.ownsRow m 3 1 (.slice Bb body.length cB) body.length (ints body)
 bin : ∀ g, Bb.map (·.block) = some g → g ∈ pl ∧ g ≠ gB
 sr : RdS w (fun b => b ∈ pl ∧ b ≠ gB ∧ Bb.map (·.block) ≠ some b) 1 sA succ.length (ints succ)
 pr : RdS w (fun b => b ∈ pl ∧ b ≠ gB ∧ Bb.map (·.block) ≠ some b) 1 pA preds.length (ints preds)
 le : z ≤ m
section
variable {w w' w3 : World} {z gF gB m cn cb cB c3 sc pc : Nat} {An Ab Bb A3 sA pA : Option Addr} {ns : List Nd} {bs : List Bk} {hn : List (Option Addr × Nat)} {hb : List H4} {body succ preds : List Int} {pl : List Nat}
/-- What is made beside. -/
theorem Mid.keep (M : Mid w z gF gB m ns bs cn cb An Ab hn hb body succ preds Bb cB sA pA sc pc pl) (hk : KB (fun b => z ≤ b ∧ b < w.heap.size) w w') (hz : w.heap.size ≤ w'.heap.size) : Mid w' z gF gB m ns bs cn cb An Ab hn hb body succ preds Bb cB sA pA sc pc pl := by
 have hpl : ∀ b, b ∈ pl → z ≤ b ∧ b < w.heap.size := fun b hb => by have := M.rng b hb; have := M.le; omega
 exact ⟨M.many.move (hk.sub (fun b hb => ⟨hb.1, hb.2.1⟩)) hz (fun b _ h => h), M.bv.kb hk (hpl _ M.inB), M.inB, fun b hb => by have := M.rng b hb; omega, own_kb M.own (fun g hg => hk g (hpl g (M.bin g (by rw [slice_block] at hg; exact hg)).1)), M.bin, M.sr.keep (hk.kept.sub (fun b hb => hpl b hb.1)), M.pr.keep (hk.kept.sub (fun b hb => hpl b hb.1)), M.le⟩
/-- The block's variable, just made. -/
theorem Many.mid (M : Many w z gF (fun _ => False) ns bs cn cb An Ab hn hb) (hz : z ≤ w.heap.size) :
 Mid (w.alloc (.cells #[.slice none 0 0, .slice none 0 0, .slice none 0 0, .slice none 0 0] 61)) z gF w.heap.size w.heap.size ns bs cn cb An Ab hn hb [] [] [] none 0 none none 0 0 [w.heap.size] :=
 ⟨M.move ((KB.refl _ _).alloc (fun b hb => hb.2.1) _) (by simp) (fun b hb _ e => by simp at e; omega), Blk.new _ _ _, (by simp), fun b hb => (by simp at hb ⊢; omega), World.ownsRow_nil _ _ _ _, fun g hg => (by cases hg), RdS.nil _ _ _ _, RdS.nil _ _ _ _, hz⟩
/-- A number more in the body. -/
theorem Mid.num (M : Mid w z gF gB m ns bs cn cb An Ab hn hb body succ preds Bb cB sA pA sc pc pl) (v : Int) (hm : m ≤ w.heap.size)
 (own3 : w3.ownsRow m 3 1 (.slice A3 (body.length + 1) c3) (body.length + 1) (ints body ++ [.int .i64 v]))
 (hg : (w.alloc (.cells #[.int .i64 v] 3)).grownBy w3 (Value.slice Bb body.length cB).ownBlock)
 (hat : (Value.slice A3 (body.length + 1) c3).ownBlock = (Value.slice Bb body.length cB).ownBlock ∨ (Value.slice A3 (body.length + 1) c3).ownBlock = some (w.alloc (.cells #[.int .i64 v] 3)).heap.size) :
 (∃ pl', Mid (w3.setCell ⟨gB, 1, none⟩ (.slice A3 (body.length + 1) c3)) z gF gB m ns bs cn cb An Ab hn hb (body ++ [v]) succ preds A3 c3 sA pA sc pc pl') ∧ (∀ {B : Nat} {w0 : World}, Below B w0 w → B ≤ z → Below B w0 (w3.setCell ⟨gB, 1, none⟩ (.slice A3 (body.length + 1) c3))) := by
 have hle := M.le
 have hB := M.rng gB M.inB
 have hO : ∀ g, Bb.map (·.block) = some g → m ≤ g ∧ g < w.heap.size := fun g hg => M.own.lt g (by rw [slice_block]; exact hg)
 have M2 := M.keep (w' := w.alloc (.cells #[.int .i64 v] 3)) ((KB.refl _ _).alloc (fun b hb => hb.2) _) (by simp)
 have B2 : Below w.heap.size w (w.alloc (.cells #[.int .i64 v] 3)) := (Below.refl _ w).alloc (Nat.le_refl _) _
 have e2 : (w.alloc (.cells #[.int .i64 v] 3)).heap.size = w.heap.size + 1 := by simp
 generalize w.alloc (.cells #[.int .i64 v] 3) = w2 at *
 rw [slice_block] at hg
 rw [slice_block, slice_block] at hat
 have hs3 := hg.size
 have nB : Bb.map (·.block) ≠ some gB := fun e => (M.bin gB e).2 rfl
 have bv4 : Blk (w3.setCell ⟨gB, 1, none⟩ (.slice A3 (body.length + 1) c3)) gB 61 #[.slice none 0 0, .slice A3 (body ++ [v]).length c3, .slice sA succ.length sc, .slice pA preds.length pc] := by
  have h := (M2.bv.grown hg (Ne.symm nB)).set_ 1 (.slice A3 (body.length + 1) c3)
  simpa using h
 have kb : ∀ {S : Nat → Prop}, (∀ b, S b → b < w2.heap.size ∧ b ≠ gB ∧ Bb.map (·.block) ≠ some b) → KB S w2 (w3.setCell ⟨gB, 1, none⟩ (.slice A3 (body.length + 1) c3)) := fun h => ((KB.refl _ _).grown hg (fun b hb => (h b hb).1) (fun b hb e => (h b hb).2.2 e.symm)).set (p := ⟨gB, 1, none⟩) (fun hb => (h _ hb).2.1 rfl) _
 have sz4 : w2.heap.size ≤ (w3.setCell ⟨gB, 1, none⟩ (.slice A3 (body.length + 1) c3)).heap.size := by simp; omega
 have own4 : (w3.setCell ⟨gB, 1, none⟩ (.slice A3 (body.length + 1) c3)).ownsRow m 3 1 (.slice A3 (body ++ [v]).length c3) (body ++ [v]).length (ints (body ++ [v])) := by
  refine own_cast (own_kb own3 (fun g h => Below.heap_setCell _ _ _ _ ?_)) (by simp) (by simp [ints])
  rw [slice_block] at h
  show g ≠ gB
  rcases hat with h5 | h5
  · exact (M.bin g (by rw [← h5]; exact h)).2
  · rw [h5] at h
    have := Option.some.inj h
    omega
 have lt4 : ∀ g, A3.map (·.block) = some g → g < (w3.setCell ⟨gB, 1, none⟩ (.slice A3 (body.length + 1) c3)).heap.size := fun g h => (own4.lt g (by rw [slice_block]; exact h)).2
 refine ⟨?_, fun hb hB2 => ?_⟩
 · rcases hat with h5 | h5
   · refine ⟨pl, M2.many.move (kb (fun b hb => ⟨hb.2.1, fun e => hb.2.2 (e ▸ M.inB), fun e => hb.2.2 (M.bin b e).1⟩)) sz4 (fun b _ h => h), bv4, M.inB, fun b hb => by have := M2.rng b hb; omega, own4, fun g hg => M.bin g (by rw [← h5]; exact hg), ?_, ?_, M.le⟩
     · exact (M2.sr.keep (kb (fun b hb => ⟨(M2.rng b hb.1).2, hb.2.1, hb.2.2⟩)).kept).more (fun b hb => ⟨hb.1, hb.2.1, by rw [h5]; exact hb.2.2⟩)
     · exact (M2.pr.keep (kb (fun b hb => ⟨(M2.rng b hb.1).2, hb.2.1, hb.2.2⟩)).kept).more (fun b hb => ⟨hb.1, hb.2.1, by rw [h5]; exact hb.2.2⟩)
   · have hl := lt4 _ h5
     refine ⟨w2.heap.size :: pl, M2.many.move (kb (fun b hb => ⟨hb.2.1, fun e => hb.2.2 (e ▸ M.inB), fun e => hb.2.2 (M.bin b e).1⟩)) sz4 (fun b hb h e => by
      rcases List.mem_cons.1 e with e | e
      · omega
      · exact h e), bv4, List.mem_cons_of_mem _ M.inB, fun b hb => ?_, own4, fun g hg => ?_, ?_, ?_, M.le⟩
     · rcases List.mem_cons.1 hb with e | e
       · subst e
         omega
       · have := M2.rng b e
         omega
     · rw [h5] at hg
       have := Option.some.inj hg
       subst this
       exact ⟨List.mem_cons_self, by omega⟩
     · exact (M2.sr.keep (kb (fun b hb => ⟨(M2.rng b hb.1).2, hb.2.1, hb.2.2⟩)).kept).more (fun b hb => ⟨List.mem_cons_of_mem _ hb.1, hb.2.1, fun e => by
        rw [h5] at e
        have := Option.some.inj e
        have := (M2.rng b hb.1).2
        omega⟩)
     · exact (M2.pr.keep (kb (fun b hb => ⟨(M2.rng b hb.1).2, hb.2.1, hb.2.2⟩)).kept).more (fun b hb => ⟨List.mem_cons_of_mem _ hb.1, hb.2.1, fun e => by
        rw [h5] at e
        have := Option.some.inj e
        have := (M2.rng b hb.1).2
        omega⟩)
 · have hsz := hb.size
   exact ((hb.trans (B2.mono (by omega))).grown hg (by omega) (fun j hj => by have := (hO j hj).1; omega)).setCell (p := ⟨gB, 1, none⟩) (by show _ ≤ gB; omega) _
/-- What lies behind the block. -/
theorem Mid.setS (M : Mid w z gF gB m ns bs cn cb An Ab hn hb body [] preds Bb cB none pA 0 pc pl) (v : Int) (hm : m ≤ w.heap.size) :
 Mid ((w.alloc (.cells #[.int .i64 v] 3)).setCell ⟨gB, 2, none⟩ (.slice (some ⟨w.heap.size, 0, none⟩) 1 1)) z gF gB m ns bs cn cb An Ab hn hb body [v] preds Bb cB (some ⟨w.heap.size, 0, none⟩) pA 1 pc (w.heap.size :: pl) ∧ (∀ {B : Nat} {w0 : World}, Below B w0 w → B ≤ z → Below B w0 ((w.alloc (.cells #[.int .i64 v] 3)).setCell ⟨gB, 2, none⟩ (.slice (some ⟨w.heap.size, 0, none⟩) 1 1))) := by
 have hle := M.le
 have hB := M.rng gB M.inB
 have hO : ∀ g, Bb.map (·.block) = some g → m ≤ g ∧ g < w.heap.size := fun g hg => M.own.lt g (by rw [slice_block]; exact hg)
 have bA := (Blk.new w 3 #[.int .i64 v]).far (p := ⟨gB, 2, none⟩) (by show w.heap.size ≠ gB; omega) (.slice (some ⟨w.heap.size, 0, none⟩) 1 1)
 have kb : ∀ {S : Nat → Prop}, (∀ b, S b → b < w.heap.size ∧ b ≠ gB) → KB S w ((w.alloc (.cells #[.int .i64 v] 3)).setCell ⟨gB, 2, none⟩ (.slice (some ⟨w.heap.size, 0, none⟩) 1 1)) := fun h => ((KB.refl _ _).alloc (fun b hb => (h b hb).1) _).set (p := ⟨gB, 2, none⟩) (fun hb => (h _ hb).2 rfl) _
 have sz4 : ((w.alloc (.cells #[.int .i64 v] 3)).setCell ⟨gB, 2, none⟩ (.slice (some ⟨w.heap.size, 0, none⟩) 1 1)).heap.size = w.heap.size + 1 := by simp
 have bv4 := (M.bv.alloc (.cells #[.int .i64 v] 3)).set_ 2 (.slice (some ⟨w.heap.size, 0, none⟩) 1 1)
 have B4 : ∀ {B : Nat} {w0 : World}, Below B w0 w → B ≤ z → Below B w0 ((w.alloc (.cells #[.int .i64 v] 3)).setCell ⟨gB, 2, none⟩ (.slice (some ⟨w.heap.size, 0, none⟩) 1 1)) := fun hb hB2 => (hb.alloc (Nat.le_trans hB2 (Nat.le_trans hle hm)) _).setCell (p := ⟨gB, 2, none⟩) (by show _ ≤ gB; omega) _
 generalize (w.alloc (.cells #[.int .i64 v] 3)).setCell ⟨gB, 2, none⟩ (.slice (some ⟨w.heap.size, 0, none⟩) 1 1) = w4 at *
 refine ⟨⟨M.many.move (kb (fun b hb => ⟨hb.2.1, fun e => hb.2.2 (e ▸ M.inB)⟩)) (by omega) (fun b hb h e => by
  rcases List.mem_cons.1 e with e | e
  · omega
  · exact h e), by simpa using bv4, List.mem_cons_of_mem _ M.inB, fun b hb => ?_, own_kb M.own (fun g hg => kb (S := fun b => b = g) (fun b hb => by subst hb; rw [slice_block] at hg; exact ⟨(hO _ hg).2, (M.bin _ hg).2⟩) g rfl), fun g hg => ⟨List.mem_cons_of_mem _ (M.bin g hg).1, (M.bin g hg).2⟩, blk_rds bA rfl ⟨List.mem_cons_self, by omega, fun e => by have := (hO _ e).2; omega⟩, ?_, M.le⟩, B4⟩
 · rcases List.mem_cons.1 hb with e | e
   · omega
   · have := M.rng b e
     omega
 · exact (M.pr.keep (kb (fun b hb => ⟨(M.rng b hb.1).2, hb.2.1⟩)).kept).more (fun b hb => ⟨List.mem_cons_of_mem _ hb.1, hb.2⟩)
/-- What lies ahead of the block. -/
theorem Mid.setP (M : Mid w z gF gB m ns bs cn cb An Ab hn hb body succ [] Bb cB sA none sc 0 pl) (v : Int) (hm : m ≤ w.heap.size) :
 Mid ((w.alloc (.cells #[.int .i64 v] 3)).setCell ⟨gB, 3, none⟩ (.slice (some ⟨w.heap.size, 0, none⟩) 1 1)) z gF gB m ns bs cn cb An Ab hn hb body succ [v] Bb cB sA (some ⟨w.heap.size, 0, none⟩) sc 1 (w.heap.size :: pl) ∧ (∀ {B : Nat} {w0 : World}, Below B w0 w → B ≤ z → Below B w0 ((w.alloc (.cells #[.int .i64 v] 3)).setCell ⟨gB, 3, none⟩ (.slice (some ⟨w.heap.size, 0, none⟩) 1 1))) := by
 have hle := M.le
 have hB := M.rng gB M.inB
 have hO : ∀ g, Bb.map (·.block) = some g → m ≤ g ∧ g < w.heap.size := fun g hg => M.own.lt g (by rw [slice_block]; exact hg)
 have bA := (Blk.new w 3 #[.int .i64 v]).far (p := ⟨gB, 3, none⟩) (by show w.heap.size ≠ gB; omega) (.slice (some ⟨w.heap.size, 0, none⟩) 1 1)
 have kb : ∀ {S : Nat → Prop}, (∀ b, S b → b < w.heap.size ∧ b ≠ gB) → KB S w ((w.alloc (.cells #[.int .i64 v] 3)).setCell ⟨gB, 3, none⟩ (.slice (some ⟨w.heap.size, 0, none⟩) 1 1)) := fun h => ((KB.refl _ _).alloc (fun b hb => (h b hb).1) _).set (p := ⟨gB, 3, none⟩) (fun hb => (h _ hb).2 rfl) _
 have sz4 : ((w.alloc (.cells #[.int .i64 v] 3)).setCell ⟨gB, 3, none⟩ (.slice (some ⟨w.heap.size, 0, none⟩) 1 1)).heap.size = w.heap.size + 1 := by simp
 have bv4 := (M.bv.alloc (.cells #[.int .i64 v] 3)).set_ 3 (.slice (some ⟨w.heap.size, 0, none⟩) 1 1)
 have B4 : ∀ {B : Nat} {w0 : World}, Below B w0 w → B ≤ z → Below B w0 ((w.alloc (.cells #[.int .i64 v] 3)).setCell ⟨gB, 3, none⟩ (.slice (some ⟨w.heap.size, 0, none⟩) 1 1)) := fun hb hB2 => (hb.alloc (Nat.le_trans hB2 (Nat.le_trans hle hm)) _).setCell (p := ⟨gB, 3, none⟩) (by show _ ≤ gB; omega) _
 generalize (w.alloc (.cells #[.int .i64 v] 3)).setCell ⟨gB, 3, none⟩ (.slice (some ⟨w.heap.size, 0, none⟩) 1 1) = w4 at *
 refine ⟨⟨M.many.move (kb (fun b hb => ⟨hb.2.1, fun e => hb.2.2 (e ▸ M.inB)⟩)) (by omega) (fun b hb h e => by
  rcases List.mem_cons.1 e with e | e
  · omega
  · exact h e), by simpa using bv4, List.mem_cons_of_mem _ M.inB, fun b hb => ?_, own_kb M.own (fun g hg => kb (S := fun b => b = g) (fun b hb => by subst hb; rw [slice_block] at hg; exact ⟨(hO _ hg).2, (M.bin _ hg).2⟩) g rfl), fun g hg => ⟨List.mem_cons_of_mem _ (M.bin g hg).1, (M.bin g hg).2⟩, ?_, blk_rds bA rfl ⟨List.mem_cons_self, by omega, fun e => by have := (hO _ e).2; omega⟩, M.le⟩, B4⟩
 · rcases List.mem_cons.1 hb with e | e
   · omega
   · have := M.rng b e
     omega
 · exact (M.sr.keep (kb (fun b hb => ⟨(M.rng b hb.1).2, hb.2.1⟩)).kept).more (fun b hb => ⟨List.mem_cons_of_mem _ hb.1, hb.2⟩)
/-- A node more in the function. -/
theorem Mid.node (M : Mid w z gF gB m ns bs cn cb An Ab hn hb body succ preds Bb cB sA pA sc pc pl) (x : Nd) (h : Option Addr × Nat) (hz : z ≤ w.heap.size)
 (hin : ndShape.inner (fun b => z ≤ b ∧ b < w.heap.size ∧ ¬ X3 gF (fun b => b ∈ pl) Ab b ∧ An.map (·.block) ≠ some b) w x h)
 (own3 : w3.ownsRow z 59 7 (.slice A3 (ns.length + 1) c3) (ns.length + 1) (ndShape.cells ns hn ++ ndShape.cell x h))
 (hg : (w.alloc (.cells ⟨ndShape.cell x h⟩ 59)).grownBy w3 (Value.slice An ns.length cn).ownBlock)
 (hat : (Value.slice A3 (ns.length + 1) c3).ownBlock = (Value.slice An ns.length cn).ownBlock ∨ (Value.slice A3 (ns.length + 1) c3).ownBlock = some (w.alloc (.cells ⟨ndShape.cell x h⟩ 59)).heap.size) :
 Mid (w3.setCell ⟨gF, 2, none⟩ (.slice A3 (ns.length + 1) c3)) z gF gB m (ns ++ [x]) bs c3 cb A3 Ab (hn ++ [h]) hb body succ preds Bb cB sA pA sc pc pl ∧ (∀ {B : Nat} {w0 : World}, Below B w0 w → B ≤ z → Below B w0 (w3.setCell ⟨gF, 2, none⟩ (.slice A3 (ns.length + 1) c3))) := by
 obtain ⟨h1, h2, h3, h4⟩ := M.many.node x h hz (fun b hb => (M.rng b hb).2) hin own3 hg hat
 exact ⟨⟨h1, M.bv.kb h2 M.inB, M.inB, fun b hb => by have := M.rng b hb; omega, own_kb M.own (fun g hg => h2 g (M.bin g (by rw [slice_block] at hg; exact hg)).1), M.bin, M.sr.keep (h2.kept.sub (fun b hb => hb.1)), M.pr.keep (h2.kept.sub (fun b hb => hb.1)), M.le⟩, h4⟩
/-- The block goes into the function. -/
theorem Mid.block (M : Mid w z gF gB m ns bs cn cb An Ab hn hb body succ preds Bb cB sA pA sc pc pl) (hz : z ≤ w.heap.size)
 (own3 : w3.ownsRow z 61 4 (.slice A3 (bs.length + 1) c3) (bs.length + 1) (bkShape.cells bs hb ++ bkShape.cell ⟨[], body, succ, preds⟩ ⟨(none, 0), (Bb, cB), (sA, sc), (pA, pc)⟩))
 (hg : (w.alloc (.cells ⟨bkShape.cell ⟨[], body, succ, preds⟩ ⟨(none, 0), (Bb, cB), (sA, sc), (pA, pc)⟩⟩ 61)).grownBy w3 (Value.slice Ab bs.length cb).ownBlock)
 (hat : (Value.slice A3 (bs.length + 1) c3).ownBlock = (Value.slice Ab bs.length cb).ownBlock ∨ (Value.slice A3 (bs.length + 1) c3).ownBlock = some (w.alloc (.cells ⟨bkShape.cell ⟨[], body, succ, preds⟩ ⟨(none, 0), (Bb, cB), (sA, sc), (pA, pc)⟩⟩ 61)).heap.size) :
 Many (w3.setCell ⟨gF, 3, none⟩ (.slice A3 (bs.length + 1) c3)) z gF (fun _ => False) ns (bs ++ [⟨[], body, succ, preds⟩]) cn c3 An A3 hn (hb ++ [⟨(none, 0), (Bb, cB), (sA, sc), (pA, pc)⟩]) ∧ (∀ {B : Nat} {w0 : World}, Below B w0 w → B ≤ z → Below B w0 (w3.setCell ⟨gF, 3, none⟩ (.slice A3 (bs.length + 1) c3))) := by
 have hpl : ∀ b, b ∈ pl → z ≤ b ∧ b < w.heap.size ∧ ¬ X3 gF (fun _ => False) An b ∧ Ab.map (·.block) ≠ some b := fun b hb => by
  have h1 := M.rng b hb
  have h2 := M.le
  refine ⟨by omega, h1.2, fun e => ?_, fun e => M.many.bks.out b e (.inr (.inr hb))⟩
  rcases e with e | e | e
  · subst e
    exact M.many.pF hb
  · exact M.many.nds.out b e (.inr (.inr hb))
  · exact e
 have M0 : Many w z gF (fun _ => False) ns bs cn cb An Ab hn hb := M.many.move (KB.refl _ _) (Nat.le_refl _) (fun b _ _ e => e)
 obtain ⟨h1, -, h3⟩ := M0.block ⟨[], body, succ, preds⟩ ⟨(none, 0), (Bb, cB), (sA, sc), (pA, pc)⟩ hz (fun b hb => hb.elim) ⟨RdS.nil _ _ _ _, rds_own M.own (fun g hg _ _ => hpl g (M.bin g (by rw [hg]; rfl)).1), M.sr.more (fun b hb => hpl b hb.1), M.pr.more (fun b hb => hpl b hb.1)⟩ own3 hg hat
 exact ⟨h1, h3⟩
end
end Go.Proofs.YtjjmpfmhggcjiaaGreatDoor
