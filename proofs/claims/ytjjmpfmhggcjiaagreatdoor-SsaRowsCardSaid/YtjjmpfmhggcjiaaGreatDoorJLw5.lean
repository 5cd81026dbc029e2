/-
  Lw1, Lw0, Lw5.
-/
import Derived.Test.YtjjmpfmhggcjiaaGreatDoorJRl3
set_option linter.unusedSimpArgs false
set_option linter.unusedVariables false
namespace Go.Proofs.YtjjmpfmhggcjiaaGreatDoor
open Go.RowKit Go.Maps
def MOnePost (W : World) (e : Ending) (w' : World) : Prop :=
  ∃ gv A1 n1 c1 A2 n2 c2 A3 n3 c3, e = .returned (.tuple #[.pointer (some ⟨gv, 0, none⟩), .agg #[.slice A1 n1 c1, .slice A2 n2 c2, .slice A3 n3 c3], .bool true]) ∧ (∃ S, InfoG w' S gv oneP oneVs ∧ ∀ b, S b → W.heap.size ≤ b) ∧ W.heap.size ≤ gv ∧ gv < w'.heap.size ∧ Below W.heap.size W w'
theorem made_one (a : Nat → Addr) (B : Nat) (W : World) (hs : Sent W B all14 a) (hB : B ≤ W.heap.size) (gm : Nat) (hP : RdP W W.heap.size none (some ⟨gm, 0, none⟩) oneP) :
    Calls Tryz.prog 23 #[.agg #[.slice none 0 0, .slice (some ⟨gm, 0, none⟩) 1 1]] W (MOnePost W) := by
  refine (show Calls Tryz.prog 23 #[.agg #[.slice none 0 0, .slice (some ⟨gm, 0, none⟩) 1 1]] W (MadePost W oneP) from made_any a B W hs hB none (some ⟨gm, 0, none⟩) 0 1 oneP hP one_pok).mono ?_
  rintro e w' ⟨v, x, b, rfl, ⟨A1, n1, c1, A2, n2, c2, A3, n3, c3, rfl⟩, -, h, hb⟩
  obtain ⟨rfl, gv, S, rfl, ⟨Ac, cc, Am, cm, Al, cl, hI⟩, hgv, hS⟩ := h oneVs one_light one_ver
  exact ⟨gv, A1, n1, c1, A2, n2, c2, A3, n3, c3, rfl, ⟨S, ⟨Ac, cc, Am, cm, Al, cl, 0, hI⟩, hS⟩, hgv, hI.blk.lt, hb⟩
end Go.Proofs.YtjjmpfmhggcjiaaGreatDoor
namespace Go.Proofs.YtjjmpfmhggcjiaaGreatDoor
open Go.RowKit Go.Maps
theorem own_cast {w : World} {z : Nat} {T : TypeId} {size n m c : Nat} {A : Option Addr} {xs ys : List Value} (h : w.ownsRow z T size (.slice A n c) n xs) (e : n = m) (e2 : xs = ys) : w.ownsRow z T size (.slice A m c) m ys := by
  subst e e2
  exact h
/-- A row of nodes of one's own, whose rows of arguments lie apart from these blocks. -/
structure NRow (wr : World) (z : Nat) (X : Nat → Prop) (ns : List Nd) (hs : List (Option Addr × Nat)) (A : Option Addr) (c : Nat) : Prop where
  len : hs.length = ns.length
  own : wr.ownsRow z 59 7 (.slice A ns.length c) ns.length (ndShape.cells ns hs)
  inn : ∀ (k : Nat) (x : Nd) (h : Option Addr × Nat), ns[k]? = some x → hs[k]? = some h → ndShape.inner (fun b => z ≤ b ∧ b < wr.heap.size ∧ ¬ X b ∧ A.map (·.block) ≠ some b) wr x h
  out : ∀ g, A.map (·.block) = some g → ¬ X g
section
variable {wr w' w3 : World} {z : Nat} {X Y : Nat → Prop} {ns : List Nd} {hs : List (Option Addr × Nat)} {A A3 : Option Addr} {c c3 : Nat}
theorem NRow.kb (R : NRow wr z X ns hs A c) (hk : KB (fun b => z ≤ b ∧ b < wr.heap.size ∧ ¬ X b) wr w') (hz : wr.heap.size ≤ w'.heap.size) : NRow w' z X ns hs A c := by
  have hA : ∀ g, A.map (·.block) = some g → z ≤ g ∧ g < wr.heap.size := fun g hg => R.own.lt g (by rw [slice_block]; exact hg)
  refine ⟨R.len, own_kb R.own (fun g hg => ?_), fun k x h e1 e2 => ?_, R.out⟩
  · rw [slice_block] at hg
    have := hA g hg
    exact hk g ⟨this.1, this.2, R.out g hg⟩
  · exact ndShape.more (ndShape.keep (R.inn k x h e1 e2) (hk.kept.sub (fun b hb => ⟨hb.1, hb.2.1, hb.2.2.1⟩))) (fun b hb => ⟨hb.1, by omega, hb.2.2⟩)
/-- A node more. -/
theorem NRow.snoc (R : NRow wr z X ns hs A c) (x : Nd) (h : Option Addr × Nat) (hin : ndShape.inner (fun b => z ≤ b ∧ b < wr.heap.size ∧ ¬ X b ∧ A.map (·.block) ≠ some b) wr x h)
    (own3 : w3.ownsRow z 59 7 (.slice A3 (ns.length + 1) c3) (ns.length + 1) (ndShape.cells ns hs ++ ndShape.cell x h)) (hg : wr.grownBy w3 (Value.slice A ns.length c).ownBlock)
    (hat : (Value.slice A3 (ns.length + 1) c3).ownBlock = (Value.slice A ns.length c).ownBlock ∨ (Value.slice A3 (ns.length + 1) c3).ownBlock = some wr.heap.size) (hX : ¬ X wr.heap.size) : NRow w3 z X (ns ++ [x]) (hs ++ [h]) A3 c3 := by
  have hl := R.len
  have hsz := hg.size
  rw [slice_block, slice_block] at hat
  rw [slice_block] at hg
  have K := Kept.grown (Kept.refl (fun b => z ≤ b ∧ b < wr.heap.size ∧ ¬ X b ∧ A.map (·.block) ≠ some b) wr) hg (fun b hb => hb.2.1) (fun b hb e => hb.2.2.2 e.symm)
  have key : ∀ (x : Nd) h, ndShape.inner (fun b => z ≤ b ∧ b < wr.heap.size ∧ ¬ X b ∧ A.map (·.block) ≠ some b) wr x h → ndShape.inner (fun b => z ≤ b ∧ b < w3.heap.size ∧ ¬ X b ∧ A3.map (·.block) ≠ some b) w3 x h := fun x h hi =>
    ndShape.more (ndShape.keep hi K) (fun b hb => ⟨hb.1, by omega, hb.2.2.1, fun e => by
      rcases hat with h5 | h5
      · exact hb.2.2.2 (by rw [← h5]; exact e)
      · rw [h5] at e
        have := Option.some.inj e
        omega⟩)
  refine ⟨by simp [hl], ?_, fun k x' h' e1 e2 => ?_, fun g hg' e => ?_⟩
  · have e := cells_snoc ndShape (l := ns) (hs := hs) hl x h
    exact own_cast own3 (by simp) e.symm
  · by_cases hk : k < ns.length
    · rw [List.getElem?_append_left hk] at e1
      rw [List.getElem?_append_left (by omega)] at e2
      exact key _ _ (R.inn k x' h' e1 e2)
    · have h4 := (List.getElem?_eq_some_iff.1 e1).1
      simp at h4
      have e3 : k = ns.length := by omega
      subst e3
      rw [List.getElem?_append_right (Nat.le_refl _)] at e1
      rw [← hl, List.getElem?_append_right (Nat.le_refl _)] at e2
      simp at e1 e2
      subst e1 e2
      exact key _ _ hin
  · rcases hat with h5 | h5
    · exact R.out g (by rw [← h5]; exact hg') e
    · rw [h5] at hg'
      have := Option.some.inj hg'
      subst this
      exact hX e
/-- What a block's body may lie in, with the block and the function. -/
def XOf (gB gF : Nat) (Ab : Option Addr) (b : Nat) : Prop := b = gB ∨ b = gF ∨ Ab.map (·.block) = some b
theorem NRow.body {gB gF : Nat} {Ab Ab3 : Option Addr} (R : NRow wr z (XOf gB gF Ab) ns hs A c) (hg : wr.grownBy w3 (Ab.map (·.block))) (hat : Ab3.map (·.block) = Ab.map (·.block) ∨ Ab3.map (·.block) = some wr.heap.size) : NRow w3 z (XOf gB gF Ab3) ns hs A c := by
  have hx : ∀ b, b < wr.heap.size → ¬ XOf gB gF Ab b → ¬ XOf gB gF Ab3 b := fun b hb h e => by
    rcases e with e | e | e
    · exact h (.inl e)
    · exact h (.inr (.inl e))
    · rcases hat with h5 | h5
      · exact h (.inr (.inr (by rw [← h5]; exact e)))
      · rw [h5] at e
        have := Option.some.inj e
        omega
  have hsz := hg.size
  have R3 := R.kb (KB.of_grown hg (fun b hb => hb.2.1) (fun b hb e => hb.2.2 (.inr (.inr e.symm)))) hsz
  refine ⟨R.len, R3.own, fun k x h e1 e2 => ?_, fun g hg' => hx g (R.own.lt g (by rw [slice_block]; exact hg')).2 (R.out g hg')⟩
  have h1 := ndShape.keep (R.inn k x h e1 e2) (Kept.grown (Kept.refl _ _) hg (fun b hb => hb.2.1) (fun b hb e => hb.2.2.1 (.inr (.inr e.symm))))
  exact ndShape.more h1 (fun b hb => ⟨hb.1, by omega, hx b hb.2.1 hb.2.2.1, hb.2.2.2⟩)
theorem NRow.rd (R : NRow wr z X ns hs A c) : RdL ndShape wr (fun b => z ≤ b ∧ b < wr.heap.size) A ns := by
  refine ⟨hs, R.len, rds_own R.own (fun g _ h1 h2 => ⟨h1, h2⟩), fun k x h e1 e2 => ndShape.more (R.inn k x h e1 e2) (fun b hb => ⟨hb.1, hb.2.1⟩)⟩
end
end Go.Proofs.YtjjmpfmhggcjiaaGreatDoor
namespace Go.Proofs.YtjjmpfmhggcjiaaGreatDoor
open Go.RowKit Go.Maps
/-- A function whose only block grows. -/
structure Grow (w : World) (z gB gF : Nat) (ns : List Nd) (ks : List Int) (cn cb : Nat) (An Ab : Option Addr) (hs : List (Option Addr × Nat)) : Prop where
  fn : Blk w gF 30 #[.int .i64 0, .int .i64 0, .slice An ns.length cn, .slice (some ⟨gB, 0, none⟩) 1 1, .slice none 0 0]
  bk : Blk w gB 61 #[.slice none 0 0, .slice Ab ks.length cb, .slice none 0 0, .slice none 0 0]
  nds : NRow w z (XOf gB gF Ab) ns hs An cn
  own : w.ownsRow z 3 1 (.slice Ab ks.length cb) ks.length (ints ks)
  ne : gB ≠ gF ∧ z ≤ gB ∧ z ≤ gF
  apart : ∀ g, Ab.map (·.block) = some g → g ≠ gB ∧ g ≠ gF
section
variable {w w3 : World} {z gB gF cn cb c3 : Nat} {An Ab A3 : Option Addr} {ns : List Nd} {ks : List Int} {hs : List (Option Addr × Nat)}
theorem Grow.drew (G : Grow w z gB gF ns ks cn cb An Ab hs) : Grow w.drew z gB gF ns ks cn cb An Ab hs :=
  ⟨G.fn, G.bk, ⟨G.nds.len, G.nds.own, G.nds.inn, G.nds.out⟩, G.own, G.ne, G.apart⟩
theorem Grow.node (G : Grow w z gB gF ns ks cn cb An Ab hs) (x : Nd) (hz : z ≤ w.heap.size)
    (own3 : w3.ownsRow z 59 7 (.slice A3 (ns.length + 1) c3) (ns.length + 1) (ndShape.cells ns hs ++ ndShape.cell x (some ⟨w.heap.size, 0, none⟩, x.args.length)))
    (hg : ((w.alloc (.cells ⟨ints x.args⟩ 3)).alloc (.cells ⟨ndShape.cell x (some ⟨w.heap.size, 0, none⟩, x.args.length)⟩ 59)).grownBy w3 (Value.slice An ns.length cn).ownBlock)
    (hat : (Value.slice A3 (ns.length + 1) c3).ownBlock = (Value.slice An ns.length cn).ownBlock ∨ (Value.slice A3 (ns.length + 1) c3).ownBlock = some ((w.alloc (.cells ⟨ints x.args⟩ 3)).alloc (.cells ⟨ndShape.cell x (some ⟨w.heap.size, 0, none⟩, x.args.length)⟩ 59)).heap.size) :
    Grow (w3.setCell ⟨gF, 2, none⟩ (.slice A3 (ns.length + 1) c3)) z gB gF (ns ++ [x]) ks c3 cb A3 Ab (hs ++ [(some ⟨w.heap.size, 0, none⟩, x.args.length)]) ∧ (∀ {S : Nat → Prop} {w0 : World}, KB S w0 w → (∀ b, S b → b < z) → KB S w0 (w3.setCell ⟨gF, 2, none⟩ (.slice A3 (ns.length + 1) c3))) ∧ (∀ {B : Nat} {w0 : World}, Below B w0 w → B ≤ z → Below B w0 (w3.setCell ⟨gF, 2, none⟩ (.slice A3 (ns.length + 1) c3))) := by
  have lF := G.fn.lt
  have lB := G.bk.lt
  have hO : ∀ g, Ab.map (·.block) = some g → z ≤ g ∧ g < w.heap.size := fun g hg => G.own.lt g (by rw [slice_block]; exact hg)
  have hN : ∀ g, An.map (·.block) = some g → z ≤ g ∧ g < w.heap.size := fun g hg => G.nds.own.lt g (by rw [slice_block]; exact hg)
  have nF : An.map (·.block) ≠ some gF := fun e => G.nds.out gF e (.inr (.inl rfl))
  have nB : An.map (·.block) ≠ some gB := fun e => G.nds.out gB e (.inl rfl)
  have nO : ∀ g, Ab.map (·.block) = some g → An.map (·.block) ≠ some g := fun g hg e => G.nds.out g e (.inr (.inr hg))
  obtain ⟨ga, hga⟩ : ∃ ga, ga = w.heap.size := ⟨_, rfl⟩
  have bA := (Blk.new w 3 ⟨ints x.args⟩).alloc (.cells ⟨ndShape.cell x (some ⟨w.heap.size, 0, none⟩, x.args.length)⟩ 59)
  have e2 : ((w.alloc (.cells ⟨ints x.args⟩ 3)).alloc (.cells ⟨ndShape.cell x (some ⟨w.heap.size, 0, none⟩, x.args.length)⟩ 59)).heap.size = w.heap.size + 2 := by simp
  have K2 : ∀ {S : Nat → Prop}, (∀ b, S b → b < w.heap.size) → KB S w ((w.alloc (.cells ⟨ints x.args⟩ 3)).alloc (.cells ⟨ndShape.cell x (some ⟨w.heap.size, 0, none⟩, x.args.length)⟩ 59)) := fun h => ((KB.refl _ _).alloc h _).alloc (fun b hb => by have := h b hb; simp; omega) _
  have B2 : Below w.heap.size w ((w.alloc (.cells ⟨ints x.args⟩ 3)).alloc (.cells ⟨ndShape.cell x (some ⟨w.heap.size, 0, none⟩, x.args.length)⟩ 59)) := ((Below.refl _ w).alloc (Nat.le_refl _) _).alloc (by simp) _
  have R2 := G.nds.kb (K2 (fun b hb => hb.2.1)) (by omega)
  have F2 := (G.fn.alloc (.cells ⟨ints x.args⟩ 3)).alloc (.cells ⟨ndShape.cell x (some ⟨w.heap.size, 0, none⟩, x.args.length)⟩ 59)
  have Q2 := (G.bk.alloc (.cells ⟨ints x.args⟩ 3)).alloc (.cells ⟨ndShape.cell x (some ⟨w.heap.size, 0, none⟩, x.args.length)⟩ 59)
  have O2 := (G.own.alloc (.cells ⟨ints x.args⟩ 3)).alloc (.cells ⟨ndShape.cell x (some ⟨w.heap.size, 0, none⟩, x.args.length)⟩ 59)
  generalize (w.alloc (.cells ⟨ints x.args⟩ 3)).alloc (.cells ⟨ndShape.cell x (some ⟨w.heap.size, 0, none⟩, x.args.length)⟩ 59) = w2 at *
  rw [← hga] at bA own3 ⊢
  have hX : ∀ g, w.heap.size ≤ g → ¬ XOf gB gF Ab g := fun g hg e => by
    rcases e with e | e | e
    · omega
    · omega
    · have := (hO g e).2
      omega
  have hin : ndShape.inner (fun b => z ≤ b ∧ b < w2.heap.size ∧ ¬ XOf gB gF Ab b ∧ An.map (·.block) ≠ some b) w2 x (some ⟨ga, 0, none⟩, x.args.length) := by
    refine ⟨by simp [ints], fun _ => ⟨ga, 0, rfl, ⟨by omega, by omega, hX ga (by omega), fun e => ?_⟩, fun j u hu => ?_⟩⟩
    · have := (hN ga e).2
      omega
    · rw [Nat.zero_add]
      exact (bA.cell j).trans (by simpa using hu)
  have R3 := R2.snoc x (some ⟨ga, 0, none⟩, x.args.length) hin own3 hg hat (hX _ (by omega))
  rw [slice_block] at hg
  rw [slice_block, slice_block] at hat
  have hs3 := hg.size
  have F3 := F2.grown hg (Ne.symm nF)
  have Q3 := Q2.grown hg (Ne.symm nB)
  have O3 := own_kb O2 (fun g h => hg.block g (by rw [slice_block] at h; have := (hO g h).2; omega) (Ne.symm (nO g (by rw [slice_block] at h; exact h))))
  have nF3 : ∀ g, A3.map (·.block) = some g → g ≠ gF := fun g h e => by
    subst e
    exact R3.out _ h (.inr (.inl rfl))
  refine ⟨⟨?_, ?_, ?_, ?_, G.ne, G.apart⟩, fun hk hS => ?_, fun hb hB => ?_⟩
  · have h := F3.set_ 2 (.slice A3 (ns.length + 1) c3)
    simpa using h
  · exact Q3.far (p := ⟨gF, 2, none⟩) G.ne.1 _
  · exact R3.kb ((KB.refl _ _).set (p := ⟨gF, 2, none⟩) (fun h => h.2.2 (.inr (.inl rfl))) _) (by simp)
  · exact own_kb O3 (fun g h => Below.heap_setCell _ _ _ _ (by rw [slice_block] at h; exact (G.apart g h).2))
  · exact ((hk.trans (K2 (fun b hb => by have := hS b hb; omega))).grown hg (fun b hb => by have := hS b hb; omega) (fun b hb e => by have := (hN b e.symm).1; have := hS b hb; omega)).set (p := ⟨gF, 2, none⟩) (fun h => by have := hS _ h; have := G.ne.2.2; simp at *; omega) _
  · have hsz := hb.size
    exact ((hb.trans (B2.mono (by omega))).grown hg (by omega) (fun j hj => by have := (hN j hj).1; omega)).setCell (p := ⟨gF, 2, none⟩) (Nat.le_trans hB G.ne.2.2) _
theorem Grow.num (G : Grow w z gB gF ns ks cn cb An Ab hs) (v : Int) (hz : z ≤ w.heap.size)
    (own3 : w3.ownsRow z 3 1 (.slice A3 (ks.length + 1) c3) (ks.length + 1) (ints ks ++ [.int .i64 v]))
    (hg : (w.alloc (.cells #[.int .i64 v] 3)).grownBy w3 (Value.slice Ab ks.length cb).ownBlock)
    (hat : (Value.slice A3 (ks.length + 1) c3).ownBlock = (Value.slice Ab ks.length cb).ownBlock ∨ (Value.slice A3 (ks.length + 1) c3).ownBlock = some (w.alloc (.cells #[.int .i64 v] 3)).heap.size) :
    Grow (w3.setCell ⟨gB, 1, none⟩ (.slice A3 (ks.length + 1) c3)) z gB gF ns (ks ++ [v]) cn c3 An A3 hs ∧ (∀ {S : Nat → Prop} {w0 : World}, KB S w0 w → (∀ b, S b → b < z) → KB S w0 (w3.setCell ⟨gB, 1, none⟩ (.slice A3 (ks.length + 1) c3))) ∧ (∀ {B : Nat} {w0 : World}, Below B w0 w → B ≤ z → Below B w0 (w3.setCell ⟨gB, 1, none⟩ (.slice A3 (ks.length + 1) c3))) := by
  have lF := G.fn.lt
  have lB := G.bk.lt
  have hO : ∀ g, Ab.map (·.block) = some g → z ≤ g ∧ g < w.heap.size := fun g hg => G.own.lt g (by rw [slice_block]; exact hg)
  have e2 : (w.alloc (.cells #[.int .i64 v] 3)).heap.size = w.heap.size + 1 := by simp
  have K2 : ∀ {S : Nat → Prop}, (∀ b, S b → b < w.heap.size) → KB S w (w.alloc (.cells #[.int .i64 v] 3)) := fun h => (KB.refl _ _).alloc h _
  have B2 : Below w.heap.size w (w.alloc (.cells #[.int .i64 v] 3)) := (Below.refl _ w).alloc (Nat.le_refl _) _
  have R2 := G.nds.kb (K2 (fun b hb => hb.2.1)) (by omega)
  have F2 := G.fn.alloc (.cells #[.int .i64 v] 3)
  have Q2 := G.bk.alloc (.cells #[.int .i64 v] 3)
  generalize w.alloc (.cells #[.int .i64 v] 3) = w2 at *
  rw [slice_block] at hg
  rw [slice_block, slice_block] at hat
  have hs3 := hg.size
  have R3 := R2.body hg hat
  have F3 := F2.grown hg (fun e => (G.apart gF e.symm).2 rfl)
  have Q3 := Q2.grown hg (fun e => (G.apart gB e.symm).1 rfl)
  have hap : ∀ g, A3.map (·.block) = some g → g ≠ gB ∧ g ≠ gF := fun g hg => by
    rcases hat with h | h
    · exact G.apart g (by rw [← h]; exact hg)
    · rw [h] at hg
      have := Option.some.inj hg
      omega
  refine ⟨⟨?_, ?_, ?_, ?_, G.ne, hap⟩, fun hk hS => ?_, fun hb hB => ?_⟩
  · exact F3.far (p := ⟨gB, 1, none⟩) (Ne.symm G.ne.1) _
  · have h := Q3.set_ 1 (.slice A3 (ks.length + 1) c3)
    simpa using h
  · exact R3.kb ((KB.refl _ _).set (p := ⟨gB, 1, none⟩) (fun h => h.2.2 (.inl rfl)) _) (by simp)
  · have h := own_kb own3 (fun g h => Below.heap_setCell w3 ⟨gB, 1, none⟩ (.slice A3 (ks.length + 1) c3) g (by rw [slice_block] at h; exact (hap g h).1))
    exact own_cast h (by simp) (by simp [ints])
  · exact ((hk.trans (K2 (fun b hb => by have := hS b hb; omega))).grown hg (fun b hb => by have := hS b hb; omega) (fun b hb e => by have := (hO b e.symm).1; have := hS b hb; omega)).set (p := ⟨gB, 1, none⟩) (fun h => by have := hS _ h; have := G.ne.2.1; simp at *; omega) _
  · have hsz := hb.size
    exact ((hb.trans (B2.mono (by omega))).grown hg (by omega) (fun j hj => by have := (hO j hj).1; omega)).setCell (p := ⟨gB, 1, none⟩) (Nat.le_trans hB G.ne.2.1) _
/-- The function that has grown. -/
theorem Grow.rdf (G : Grow w z gB gF ns ks cn cb An Ab hs) : RdF w (fun b => z ≤ b ∧ b < w.heap.size) An (some ⟨gB, 0, none⟩) none ⟨0, 0, ns, [⟨[], ks, [], []⟩], []⟩ := by
  refine ⟨G.nds.rd, ⟨[⟨(none, 0), (Ab, cb), (none, 0), (none, 0)⟩], rfl, ?_, fun k x h e1 e2 => ?_⟩, RdL.nil _ _ _ _⟩
  · exact blk_rds G.bk rfl ⟨G.ne.2.1, G.bk.lt⟩
  · match k with
    | 0 => cases e2; cases e1; exact ⟨RdS.nil _ _ _ _, (rds_own G.own (fun g _ h1 h2 => ⟨h1, h2⟩)).cast (by simp [ints]), RdS.nil _ _ _ _, RdS.nil _ _ _ _⟩
    | k + 1 => cases e2
end
end Go.Proofs.YtjjmpfmhggcjiaaGreatDoor
