/-
 Rf1, Rf2, Rf3.
-/
import Derived.Test.YtjjmpfmhggcjiaaGreatDoorJRegPar
import Derived.Test.YtjjmpfmhggcjiaaGreatDoorJSs7b
set_option linter.unusedSimpArgs false
set_option linter.unusedVariables false
namespace Go.Proofs.YtjjmpfmhggcjiaaGreatDoor
open Go.RowKit Go.Maps
set_option maxRecDepth 100000 in
set_option maxHeartbeats 2000000 in
theorem ints_any (A : Option Addr) (c : Nat) (l : List Int) (w : World) (hr : Rd w w.heap.size 1 A l.length (ints l)) (hl : l.length ≤ 1000000) :
 Calls Tryz.prog 48 #[.slice A l.length c] w (ClonePost w 3 1 l.length (ints l)) := by
 have HP := Lib.hid (fun A' c' w' (h1 : w'.ownsRow w.heap.size 3 1 (.slice A' l.length c') l.length (ints l)) (h2 : Below w.heap.size w w') => (show ClonePost w 3 1 l.length (ints l) (.returned (.slice A' l.length c')) w' from ⟨A', c', rfl, h1, h2⟩))
 generalize ClonePost w 3 1 l.length (ints l) = Post at *
 have HR := Lib.hid hr
 clear hr
 obtain ⟨ii, hi1, hi2, hi3, hi4⟩ := info_parts infoIntR
 have Hi1 := Lib.hid hi1
 have Hi2 := Lib.hid hi2
 have Hi3 := Lib.hid hi3
 have Hi4 := Lib.hid hi4
 clear hi1 hi2 hi3 hi4
 have hmk : ∀ W : World, (Instr.makeSlice 47 (.int .i64 0) (.int .i64 (l.length : Nat))).run Tryz.prog W = .ok (.slice (some ⟨W.heap.size, 0, none⟩) 0 l.length) (W.alloc (.cells (madeCells #[.int .i64 0] l.length) 3)) := fun W => by
  have h := run_make (P := Tryz.prog) W 47 3 ii (.int .i64 0) Tryz.underlying47 Hi1.out Hi2.out .i64 .i64 0 (l.length : Nat) (by omega) (by omega) (by rw [Hi4.out]; omega) (by omega)
  rw [Int.toNat_natCast, Hi3.out, Nat.mul_one] at h
  exact h
 go_enter Tryz.func48, Tryz.ntmps48
 go_upto_region 2 with (fail)
 have own0 : (w.alloc (.cells (madeCells #[.int .i64 0] l.length) 3)).ownsRow w.heap.size 3 1 (.slice (some ⟨w.heap.size, 0, none⟩) 0 l.length) 0 [] := World.ownsRow_made w _ l.length (Nat.le_refl _) (by unfold maxLen; omega) (by rw [size_madeCells, Nat.mul_one])
 have hb0 := (Below.refl w.heap.size w).alloc (Nat.le_refl _) (.cells (madeCells #[.int .i64 0] l.length) 3)
 clear hmk
 generalize w.alloc (.cells (madeCells #[.int .i64 0] l.length) 3) = w1 at *
 go_wp2
 go_loopw [3, 4] (fun v iv wr => ∃ (k c' : Nat) (A' : Option Addr), k ≤ l.length ∧ iv = .int .i64 k ∧ v = .slice A' k c' ∧ wr.ownsRow w.heap.size 3 1 (.slice A' k c') k (ints (l.take k)) ∧ Below w.heap.size w wr) (fun _ iv _ => l.length - (intOf iv).toNat)
 case atStart => exact ⟨0, l.length, _, Nat.zero_le _, rfl, rfl, by simpa [ints] using own0, hb0⟩
 case round =>
  clear own0 hb0
  obtain ⟨k, c', A', hk, rfl, rfl, own, hb⟩ := hrel
  by_cases hlt : k < l.length
  · obtain ⟨b, off, rfl, hbb, x0⟩ := ints_at (HR.out.below hb (Nat.le_refl _)) hlt
    have k0 : (0 : Int) ≤ k := by omega
    have k1 : (k : Int) < l.length := by omega
    have hbw := hb.size
    have htk : l.take (k + 1) = l.take k ++ [l[k]?.getD 0] := by rw [List.take_succ_eq_append_getElem hlt, List.getElem?_eq_getElem hlt]; rfl
    have Htk := Lib.hid htk
    clear htk
    generalize l[k]?.getD 0 = x at *
    go_wp2_with (at_builtin
                 refine wpList_append_row rfl (.tmp 14) (.tmp 19) 47 rfl w.heap.size 3 _ 1 8 Tryz.underlying47 infoIntR rfl (by omega) A' c' k (ints (l.take k)) rfl (own.alloc _) wr.heap.size 1 1 3 [.int .i64 x] rfl (Blk.new _ _ _) rfl (by intro u hu; simp at hu; subst hu; rfl) (by unfold maxLen; omega) (by omega) (by simp; omega) ?_
                 intro A3 c3 w3 own3 hg3 hat3)
    have own' := own.alloc (.cells #[.int .i64 x] 3)
    go_roundw
    case rel => exact ⟨k + 1, c3, A3, by omega, by go_num, rfl, by rw [Htk.out]; simpa [ints] using own3, ((hb.alloc hb.size _).grown hg3 (by simp; omega) (fun j hj => (own'.lt j hj).1))⟩
    case measure => simp [intOf]; omega
  · have e : k = l.length := by omega
    subst e
    clear hlt
    go_wp2
    exact HP.out A' c' wr (by simpa using own) hb
end Go.Proofs.YtjjmpfmhggcjiaaGreatDoor
namespace Go.Proofs.YtjjmpfmhggcjiaaGreatDoor
open Go.RowKit Go.Maps
abbrev ndw (A : Option Addr) (c : Nat) (x : Nd) : Value := .agg #[.int .i64 x.op, .int .i64 x.a, .int .i64 x.b, .int .i64 x.st, .string x.kind, .int .i64 x.n, .slice A x.args.length c]
def NodePost (w : World) (x : Nd) (e : Ending) (w' : World) : Prop := ∃ A c, e = .returned (ndw A c x) ∧ w'.ownsRow w.heap.size 3 1 (.slice A x.args.length c) x.args.length (ints x.args) ∧ Below w.heap.size w w'
set_option maxRecDepth 100000 in
set_option maxHeartbeats 2000000 in
theorem node_any (A : Option Addr) (c : Nat) (x : Nd) (w : World) (hr : Rd w w.heap.size 1 A x.args.length (ints x.args)) (hl : x.args.length ≤ 1000000) :
 Calls Tryz.prog 106 #[ndw A c x] w (NodePost w x) := by
 have HP := Lib.hid (fun A' c' w' (h1 : w'.ownsRow w.heap.size 3 1 (.slice A' x.args.length c') x.args.length (ints x.args)) (h2 : Below w.heap.size w w') => (show NodePost w x (.returned (ndw A' c' x)) w' from ⟨A', c', rfl, h1, h2⟩))
 generalize NodePost w x = Post at *
 have HI := Lib.hid (fun W (hW : Below w.heap.size w W) => ints_any A c x.args W ((hr.below hW (Nat.le_refl _)).more hW.size) hl)
 clear hr
 have bN := (Blk.new w 59 #[.int .i64 x.op, .int .i64 x.a, .int .i64 x.b, .int .i64 x.st, .string x.kind, .int .i64 x.n, .slice A x.args.length c]).alloc (.cells #[.int .i64 0, .int .i64 0, .int .i64 0, .int .i64 0, .string ⟨#[]⟩, .int .i64 0, .slice none 0 0] 59)
 have bR := Blk.newAt (w := w.alloc (.cells #[.int .i64 x.op, .int .i64 x.a, .int .i64 x.b, .int .i64 x.st, .string x.kind, .int .i64 x.n, .slice A x.args.length c] 59)) (g := w.heap.size + 1) (by simp) 59 #[.int .i64 0, .int .i64 0, .int .i64 0, .int .i64 0, .string ⟨#[]⟩, .int .i64 0, .slice none 0 0]
 have hb := ((Below.refl w.heap.size w).alloc (Nat.le_refl _) (.cells #[.int .i64 x.op, .int .i64 x.a, .int .i64 x.b, .int .i64 x.st, .string x.kind, .int .i64 x.n, .slice A x.args.length c] 59)).alloc (by simp) (.cells #[.int .i64 0, .int .i64 0, .int .i64 0, .int .i64 0, .string ⟨#[]⟩, .int .i64 0, .slice none 0 0] 59)
 have hz : ((w.alloc (.cells #[.int .i64 x.op, .int .i64 x.a, .int .i64 x.b, .int .i64 x.st, .string x.kind, .int .i64 x.n, .slice A x.args.length c] 59)).alloc (.cells #[.int .i64 0, .int .i64 0, .int .i64 0, .int .i64 0, .string ⟨#[]⟩, .int .i64 0, .slice none 0 0] 59)).heap.size = w.heap.size + 2 := by simp
 have Hz := Lib.hid hz
 clear hz
 go_enter Tryz.func106, Tryz.ntmps106
 go_upto_region 1 with (fail)
 generalize (w.alloc (.cells #[.int .i64 x.op, .int .i64 x.a, .int .i64 x.b, .int .i64 x.st, .string x.kind, .int .i64 x.n, .slice A x.args.length c] 59)).alloc (.cells #[.int .i64 0, .int .i64 0, .int .i64 0, .int .i64 0, .string ⟨#[]⟩, .int .i64 0, .slice none 0 0] 59) = w2 at *
 refine wpJ_start (S := fun W => Blk W w.heap.size 59 #[.int .i64 x.op, .int .i64 x.a, .int .i64 x.b, .int .i64 x.st, .string x.kind, .int .i64 x.n, .slice A x.args.length c]) (fun q => decide (q ≤ 15)) (by kernel_rfl) bN (fun HS => ?_)
 refine takeQ 0 3 rfl HS (.inl ⟨rfl, fun W hW => by go_simp; rfl⟩) ?_
 simp only [pS]
 refine takeQ 1 4 rfl HS (.inl ⟨rfl, fun W hW => by have h0 := hW.cell 0; simp at h0; go_simp; rfl⟩) ?_
 simp only [pS]
 refine takeQ 2 5 rfl HS (.inl ⟨rfl, fun W hW => by go_simp; rfl⟩) ?_
 simp only [pS]
 refine takeQ 3 6 rfl HS (.inl ⟨rfl, fun W hW => by have h0 := hW.cell 1; simp at h0; go_simp; rfl⟩) ?_
 simp only [pS]
 refine takeQ 4 7 rfl HS (.inl ⟨rfl, fun W hW => by go_simp; rfl⟩) ?_
 simp only [pS]
 refine takeQ 5 8 rfl HS (.inl ⟨rfl, fun W hW => by have h0 := hW.cell 2; simp at h0; go_simp; rfl⟩) ?_
 simp only [pS]
 refine takeQ 6 9 rfl HS (.inl ⟨rfl, fun W hW => by go_simp; rfl⟩) ?_
 simp only [pS]
 refine takeQ 7 10 rfl HS (.inl ⟨rfl, fun W hW => by have h0 := hW.cell 3; simp at h0; go_simp; rfl⟩) ?_
 simp only [pS]
 refine takeQ 8 11 rfl HS (.inl ⟨rfl, fun W hW => by go_simp; rfl⟩) ?_
 simp only [pS]
 refine takeQ 9 12 rfl HS (.inl ⟨rfl, fun W hW => by have h0 := hW.cell 4; simp at h0; go_simp; rfl⟩) ?_
 simp only [pS]
 refine takeQ 10 13 rfl HS (.inl ⟨rfl, fun W hW => by go_simp; rfl⟩) ?_
 simp only [pS]
 refine takeQ 11 14 rfl HS (.inl ⟨rfl, fun W hW => by have h0 := hW.cell 5; simp at h0; go_simp; rfl⟩) ?_
 simp only [pS]
 refine takeQ 12 15 rfl HS (.inl ⟨rfl, fun W hW => by go_simp; rfl⟩) ?_
 simp only [pS]
 refine takeQ 13 16 rfl HS (.inl ⟨rfl, fun W hW => by have h0 := hW.cell 6; simp at h0; go_simp; rfl⟩) ?_
 simp only [pS]
 refine stepQ 14 rfl (fun K' HK => ?_)
 go_simp
 refine (HI.out w2.drew hb.drew).mono ?_
 rintro e w3 ⟨A', c', rfl, own, hb23⟩
 have hb23' : Below w2.heap.size w2 w3 := (Below.refl _ _).drew.trans hb23
 have bN3 := bN.below hb23' bN.lt
 have bR3 := bR.below hb23' bR.lt
 have hb3 := hb.trans (hb23'.mono hb.size)
 have own2 : w3.ownsRow w2.heap.size 3 1 (.slice A' x.args.length c') x.args.length (ints x.args) := own
 refine HK.out _ _ (fun _ => bN3) ?_
 clear HK HS bN bR hb hb23 hb23' own
 try simp only [pS]
 refine takeQ 15 18 rfl bN3 (.inl ⟨rfl, fun W hW => by go_simp; rfl⟩) ?_
 simp only [pS]
 have i0 : World.cell? _ ⟨w.heap.size + 1, 0, none⟩ = some (.int .i64 0) := bR3.cell 0
 have if0 := bR3.frozen 0
 have i1 : World.cell? _ ⟨w.heap.size + 1, 1, none⟩ = some (.int .i64 0) := bR3.cell 1
 have if1 := bR3.frozen 1
 have i2 : World.cell? _ ⟨w.heap.size + 1, 2, none⟩ = some (.int .i64 0) := bR3.cell 2
 have if2 := bR3.frozen 2
 have i3 : World.cell? _ ⟨w.heap.size + 1, 3, none⟩ = some (.int .i64 0) := bR3.cell 3
 have if3 := bR3.frozen 3
 have i4 : World.cell? _ ⟨w.heap.size + 1, 4, none⟩ = some (.string ⟨#[]⟩) := bR3.cell 4
 have if4 := bR3.frozen 4
 have i5 : World.cell? _ ⟨w.heap.size + 1, 5, none⟩ = some (.int .i64 0) := bR3.cell 5
 have if5 := bR3.frozen 5
 have i6 : World.cell? _ ⟨w.heap.size + 1, 6, none⟩ = some (.slice none 0 0) := bR3.cell 6
 have if6 := bR3.frozen 6
 have il := bR3.lt
 refine stepQ 16 rfl (fun K' HK => ?_)
 go_simp
 have own4 := own_kb own2 (w' := (((((((w3.setCell ⟨w.heap.size + 1, 0, none⟩ (.int .i64 x.op)).setCell ⟨w.heap.size + 1, 1, none⟩ (.int .i64 x.a)).setCell ⟨w.heap.size + 1, 2, none⟩ (.int .i64 x.b)).setCell ⟨w.heap.size + 1, 3, none⟩ (.int .i64 x.st)).setCell ⟨w.heap.size + 1, 4, none⟩ (.string x.kind)).setCell ⟨w.heap.size + 1, 5, none⟩ (.int .i64 x.n)).setCell ⟨w.heap.size + 1, 6, none⟩ (.slice A' x.args.length c'))) (fun g hg => by
  have := (own2.lt g hg).1
  have := Hz.out
  exact ((((((((KB.refl (fun b => b ≠ w.heap.size + 1) w3).set (p := ⟨w.heap.size + 1, 0, none⟩) (fun h => h rfl) (.int .i64 x.op)).set (p := ⟨w.heap.size + 1, 1, none⟩) (fun h => h rfl) (.int .i64 x.a)).set (p := ⟨w.heap.size + 1, 2, none⟩) (fun h => h rfl) (.int .i64 x.b)).set (p := ⟨w.heap.size + 1, 3, none⟩) (fun h => h rfl) (.int .i64 x.st)).set (p := ⟨w.heap.size + 1, 4, none⟩) (fun h => h rfl) (.string x.kind)).set (p := ⟨w.heap.size + 1, 5, none⟩) (fun h => h rfl) (.int .i64 x.n)).set (p := ⟨w.heap.size + 1, 6, none⟩) (fun h => h rfl) (.slice A' x.args.length c')) g (by omega))
 have hb4 := (((((((hb3.setCell (p := ⟨w.heap.size + 1, 0, none⟩) (by show w.heap.size ≤ w.heap.size + 1; omega) (.int .i64 x.op)).setCell (p := ⟨w.heap.size + 1, 1, none⟩) (by show w.heap.size ≤ w.heap.size + 1; omega) (.int .i64 x.a)).setCell (p := ⟨w.heap.size + 1, 2, none⟩) (by show w.heap.size ≤ w.heap.size + 1; omega) (.int .i64 x.b)).setCell (p := ⟨w.heap.size + 1, 3, none⟩) (by show w.heap.size ≤ w.heap.size + 1; omega) (.int .i64 x.st)).setCell (p := ⟨w.heap.size + 1, 4, none⟩) (by show w.heap.size ≤ w.heap.size + 1; omega) (.string x.kind)).setCell (p := ⟨w.heap.size + 1, 5, none⟩) (by show w.heap.size ≤ w.heap.size + 1; omega) (.int .i64 x.n)).setCell (p := ⟨w.heap.size + 1, 6, none⟩) (by show w.heap.size ≤ w.heap.size + 1; omega) (.slice A' x.args.length c'))
 have bR4 := (((((((bR3.set_ 0 (.int .i64 x.op)).set_ 1 (.int .i64 x.a)).set_ 2 (.int .i64 x.b)).set_ 3 (.int .i64 x.st)).set_ 4 (.string x.kind)).set_ 5 (.int .i64 x.n)).set_ 6 (.slice A' x.args.length c'))
 simp only [List.setIfInBounds_toArray, List.set_cons_zero, List.set_cons_succ] at bR4
 have own5 := own_base own4 (b' := w.heap.size) (by have := Hz.out; omega)
 refine HK.out _ _ (fun h => by simp at h) ?_
 clear HK i0 if0 i1 if1 i2 if2 i3 if3 i4 if4 i5 if5 i6 if6 il bR3 hb3 own2 own4 bN3
 generalize (((((((w3.setCell ⟨w.heap.size + 1, 0, none⟩ (.int .i64 x.op)).setCell ⟨w.heap.size + 1, 1, none⟩ (.int .i64 x.a)).setCell ⟨w.heap.size + 1, 2, none⟩ (.int .i64 x.b)).setCell ⟨w.heap.size + 1, 3, none⟩ (.int .i64 x.st)).setCell ⟨w.heap.size + 1, 4, none⟩ (.string x.kind)).setCell ⟨w.heap.size + 1, 5, none⟩ (.int .i64 x.n)).setCell ⟨w.heap.size + 1, 6, none⟩ (.slice A' x.args.length c')) = w4 at *
 refine wpAnyJ_done (by kernel_rfl) ?_ _
 have q0 : World.cell? _ ⟨w.heap.size + 1, 0, none⟩ = some (.int .i64 x.op) := bR4.cell 0
 have q1 : World.cell? _ ⟨w.heap.size + 1, 1, none⟩ = some (.int .i64 x.a) := bR4.cell 1
 have q2 : World.cell? _ ⟨w.heap.size + 1, 2, none⟩ = some (.int .i64 x.b) := bR4.cell 2
 have q3 : World.cell? _ ⟨w.heap.size + 1, 3, none⟩ = some (.int .i64 x.st) := bR4.cell 3
 have q4 : World.cell? _ ⟨w.heap.size + 1, 4, none⟩ = some (.string x.kind) := bR4.cell 4
 have q5 : World.cell? _ ⟨w.heap.size + 1, 5, none⟩ = some (.int .i64 x.n) := bR4.cell 5
 have q6 : World.cell? _ ⟨w.heap.size + 1, 6, none⟩ = some (.slice A' x.args.length c') := bR4.cell 6
 go_wp2
 refine bodyPost_ret (v := .agg #[.int .i64 x.op, .int .i64 x.a, .int .i64 x.b, .int .i64 x.st, .string x.kind, .int .i64 x.n, .slice A' x.args.length c']) (by simp [results, Tryz.results106, go_sem, q0, q1, q2, q3, q4, q5, q6]) rfl ?_
 exact HP.out A' c' w4 own5 hb4
end Go.Proofs.YtjjmpfmhggcjiaaGreatDoor
namespace Go.Proofs.YtjjmpfmhggcjiaaGreatDoor
open Go.RowKit Go.Maps
theorem OwnMat.snoc {w w' : World} {base : Nat} {e : TypeId} {hs : List (Option Addr × Nat)} {ls : List (List Int)} (M : OwnMat w base e hs ls) (hb : Below w.heap.size w w') {A : Option Addr} {c : Nat} {l' : List Int}
 (hown : w'.ownsRow w.heap.size e 1 (.slice A l'.length c) l'.length (ints l')) (hbase : base ≤ w.heap.size) : OwnMat w' base e (hs ++ [(A, c)]) (ls ++ [l']) := by
 have hA : ∀ g, A.map (·.block) = some g → w.heap.size ≤ g := fun g hg => (hown.lt g (by rw [← hg]; cases A <;> rfl)).1
 have hl := M.len
 have hat : ∀ (i : Nat) h, (hs ++ [(A, c)])[i]? = some h → (i < hs.length ∧ hs[i]? = some h) ∨ (i = hs.length ∧ h = (A, c)) := fun i h h1 => by
  by_cases hi : i < hs.length
  · rw [List.getElem?_append_left hi] at h1; exact .inl ⟨hi, h1⟩
  · have h2 := (List.getElem?_eq_some_iff.1 h1).1
    simp at h2
    have e1 : i = hs.length := by omega
    subst e1
    rw [List.getElem?_append_right (Nat.le_refl _)] at h1
    simp at h1
    exact .inr ⟨rfl, h1.symm⟩
 refine ⟨by simp [hl], fun i h y h1 h2 => ?_, fun i j h h' g h1 h2 h3 h4 => ?_⟩
 · rcases hat i h h1 with ⟨hi, h1'⟩ | ⟨rfl, rfl⟩
   · rw [List.getElem?_append_left (by omega)] at h2
     exact own_below (M.own i h y h1' h2) hb (Nat.le_refl _)
   · rw [hl, List.getElem?_append_right (Nat.le_refl _)] at h2
     simp at h2
     subst h2
     exact own_base hown hbase
 · rcases hat i h h1 with ⟨hi, h1'⟩ | ⟨rfl, rfl⟩ <;> rcases hat j h' h2 with ⟨hj, h2'⟩ | ⟨rfl, rfl⟩
   · exact M.apart i j h h' g h1' h2' h3 h4
   · have := (M.block h1' h3).2
     have := hA g h4
     omega
   · have := (M.block h2' h4).2
     have := hA g h3
     omega
   · rfl
/-- A row of nodes of one's own, between two blocks. -/
def NodesAt (w : World) (lo hi : Nat) (A : Option Addr) (c : Nat) (l : List Nd) : Prop :=
 ∃ hs : List (Option Addr × Nat), hs.length = l.length ∧ w.ownsRow lo 59 7 (.slice A l.length c) l.length (ndShape.cells l hs) ∧ OwnMat w lo 3 hs (l.map (·.args)) ∧ (∀ g, A.map (·.block) = some g → g < hi) ∧ ∀ (i : Nat) (h : Option Addr × Nat) (g : Nat), hs[i]? = some h → h.1.map (·.block) = some g → g < hi ∧ A.map (·.block) ≠ some g
theorem slice_block (A : Option Addr) (n c : Nat) : (Value.slice A n c).ownBlock = A.map (·.block) := by cases A <;> rfl
theorem NodesAt.below {w w' : World} {lo hi : Nat} {A : Option Addr} {c : Nat} {l : List Nd} (h : NodesAt w lo hi A c l) (hb : Below hi w w') : NodesAt w' lo hi A c l := by
 obtain ⟨hs, h1, h2, h3, h4, h5⟩ := h
 refine ⟨hs, h1, own_kb h2 (fun g hg => hb.block g (h4 g (by rw [← slice_block A l.length c]; exact hg))), h3.kb (S := fun b => b < hi) (fun b hb' => hb.block b hb') (fun k h b e1 e2 => (h5 k h b e1 e2).1), h4, h5⟩
def NodesPost (w : World) (l : List Nd) (e : Ending) (w' : World) : Prop := ∃ A c, e = .returned (.slice A l.length c) ∧ NodesAt w' w.heap.size w'.heap.size A c l ∧ Below w.heap.size w w'
theorem infoNd : (Tryz.prog.info? 59).map (fun i => (i.zero, i.size, i.bytes)) = some (some (.agg #[.int .i64 0, .int .i64 0, .int .i64 0, .int .i64 0, .string ⟨#[]⟩, .int .i64 0, .slice none 0 0]), 7, 80) := by kernel_rfl
set_option maxRecDepth 100000 in
set_option maxHeartbeats 2000000 in
theorem nodes_copy {S : Nat → Prop} (A : Option Addr) (c : Nat) (l : List Nd) (w : World) (hr : RdL ndShape w S A l) (hS : ∀ b, S b → b < w.heap.size) (hl : l.length ≤ 100000) (hx : ∀ k, k < l.length → (l.getD k default).args.length ≤ 1000000) :
 Calls Tryz.prog 60 #[.slice A l.length c] w (NodesPost w l) := by
 have HP := Lib.hid (fun A' c' w' (h1 : NodesAt w' w.heap.size w'.heap.size A' c' l) (h2 : Below w.heap.size w w') => (show NodesPost w l (.returned (.slice A' l.length c')) w' from ⟨A', c', rfl, h1, h2⟩))
 generalize NodesPost w l = Post at *
 have HR := Lib.hid hr
 have HS := Lib.hid hS
 have HX := Lib.hid hx
 clear hr hS hx
 obtain ⟨ii, hi1, hi2, hi3, hi4⟩ := info_parts infoNd
 have Hi1 := Lib.hid hi1
 have Hi2 := Lib.hid hi2
 have Hi3 := Lib.hid hi3
 have Hi4 := Lib.hid hi4
 clear hi1 hi2 hi3 hi4
 have hmk : ∀ W : World, (Instr.makeSlice 26 (.int .i64 0) (.int .i64 (l.length : Nat))).run Tryz.prog W = .ok (.slice (some ⟨W.heap.size, 0, none⟩) 0 l.length) (W.alloc (.cells (madeCells #[.int .i64 0, .int .i64 0, .int .i64 0, .int .i64 0, .string ⟨#[]⟩, .int .i64 0, .slice none 0 0] (l.length * 7)) 59)) := fun W => by
  have h := run_make (P := Tryz.prog) W 26 59 ii (.agg #[.int .i64 0, .int .i64 0, .int .i64 0, .int .i64 0, .string ⟨#[]⟩, .int .i64 0, .slice none 0 0]) Tryz.underlying26 Hi1.out Hi2.out .i64 .i64 0 (l.length : Nat) (by omega) (by omega) (by rw [Hi4.out]; omega) (by omega)
  rw [Int.toNat_natCast, Hi3.out] at h
  exact h
 go_enter Tryz.func60, Tryz.ntmps60
 go_upto_region 2 with (fail)
 generalize hO : Obj.cells (madeCells #[.int .i64 0, .int .i64 0, .int .i64 0, .int .i64 0, .string ⟨#[]⟩, .int .i64 0, .slice none 0 0] (l.length * 7)) 59 = O at *
 have own0 : (w.alloc O).ownsRow w.heap.size 59 7 (.slice (some ⟨w.heap.size, 0, none⟩) 0 l.length) 0 [] := by
  rw [← hO]
  exact World.ownsRow_made w _ l.length (Nat.le_refl _) (by unfold maxLen; omega) (by rw [size_madeCells])
 have hb0 := (Below.refl w.heap.size w).alloc (Nat.le_refl _) O
 clear hmk hO
 generalize w.alloc O = w1 at *
 go_wp2
 go_loopw [3, 4] (fun v iv wr => ∃ (k c' : Nat) (A' : Option Addr) (hs : List (Option Addr × Nat)), k ≤ l.length ∧ iv = .int .i64 k ∧ v = .slice A' k c' ∧ Hid (hs.length = k) ∧ wr.ownsRow w.heap.size 59 7 (.slice A' k c') k (ndShape.cells (l.take k) hs) ∧ OwnMat wr w.heap.size 3 hs ((l.take k).map (·.args)) ∧ Hid (∀ (i : Nat) (h : Option Addr × Nat) (g : Nat), hs[i]? = some h → h.1.map (·.block) = some g → A'.map (·.block) ≠ some g) ∧ Below w.heap.size w wr) (fun _ iv _ => l.length - (intOf iv).toNat)
 case atStart => exact ⟨0, l.length, _, [], Nat.zero_le _, rfl, rfl, Lib.hid rfl, own0, ⟨rfl, fun k h l h1 => by simp at h1, fun i j h h' g h1 => by simp at h1⟩, Lib.hid (fun i h g h1 => by simp at h1), hb0⟩
 case round =>
  clear own0 hb0
  obtain ⟨k, c', A', hs, hk, rfl, rfl, Hhs, own, M, Hap, hb⟩ := hrel
  by_cases hlt : k < l.length
  · obtain ⟨b, off, A2, c2, rfl, hSb, x0, x1, x2, x3, x4, x5, x6, hrow⟩ := rd_nd (HR.out.below hb HS.out) hlt
    have hbb := HS.out b hSb
    have k0 : (0 : Int) ≤ k := by omega
    have k1 : (k : Int) < l.length := by omega
    have hbw := hb.size
    have Htk := Lib.hid (show l.take (k + 1) = l.take k ++ [l.getD k default] by rw [List.take_succ_eq_append_getElem hlt]; simp [hlt])
    have hxk := HX.out k hlt
    generalize l.getD k default = x at *
    have HN := Lib.hid (node_any A2 c2 x wr ((hrow.rd (B := w.heap.size) HS.out).more hb.size) hxk)
    go_wp2_with fail
    refine HN.out.mono ?_
    rintro e w2 ⟨A4, c4, rfl, own4, hb12⟩
    have M2 := M.snoc hb12 own4 hbw
    have own2 := own_below own hb12 (Nat.le_refl _)
    have hb2 := hb.trans (hb12.mono hb.size)
    have Hap2 := Lib.hid (show ∀ (i : Nat) (h : Option Addr × Nat) (g : Nat), (hs ++ [(A4, c4)])[i]? = some h → h.1.map (·.block) = some g → A'.map (·.block) ≠ some g from fun i h g h1 h2 h3 => by
     by_cases hi : i < hs.length
     · rw [List.getElem?_append_left hi] at h1
       exact Hap.out i h g h1 h2 h3
     · have h4 := (List.getElem?_eq_some_iff.1 h1).1
       simp at h4
       have e1 : i = hs.length := by omega
       subst e1
       rw [List.getElem?_append_right (Nat.le_refl _)] at h1
       simp at h1
       subst h1
       have h5 := (own4.lt g (by rw [slice_block]; exact h2)).1
       have h6 := (own.lt g (by rw [slice_block]; exact h3)).2
       omega)
    have hz12 := hb12.size
    clear M own hb hb12 own4 x0 x1 x2 x3 x4 x5 x6 hrow HN
    go_wp2_with (at_builtin
                 refine wpList_append_row rfl (.tmp 14) (.tmp 20) 26 rfl w.heap.size 59 _ 7 80 Tryz.underlying26 infoNd rfl (by omega) A' c' k (ndShape.cells (l.take k) hs) rfl (own2.alloc _) w2.heap.size 1 1 59 [.int .i64 x.op, .int .i64 x.a, .int .i64 x.b, .int .i64 x.st, .string x.kind, .int .i64 x.n, .slice A4 x.args.length c4] rfl (Blk.new _ _ _) rfl (by intro u hu; simp at hu; rcases hu with rfl | rfl | rfl | rfl | rfl | rfl | rfl <;> rfl) (by unfold maxLen; omega) (by omega) (by simp; omega) ?_
                 intro A3 c3 w3 own3 hg3 hat3)
    have own2a := own2.alloc (.cells #[.int .i64 x.op, .int .i64 x.a, .int .i64 x.b, .int .i64 x.st, .string x.kind, .int .i64 x.n, .slice A4 x.args.length c4] 59)
    have Ma := M2.alloc (.cells #[.int .i64 x.op, .int .i64 x.a, .int .i64 x.b, .int .i64 x.st, .string x.kind, .int .i64 x.n, .slice A4 x.args.length c4] 59)
    have hba := hb2.alloc hb2.size (.cells #[.int .i64 x.op, .int .i64 x.a, .int .i64 x.b, .int .i64 x.st, .string x.kind, .int .i64 x.n, .slice A4 x.args.length c4] 59)
    have M3 := Ma.kept hg3 (fun i h g h1 h2 => by rw [slice_block]; exact Hap2.out i h g h1 h2)
    have hb3 := hba.grown hg3 (by simp; omega) (fun j hj => (own2a.lt j hj).1)
    have hcs := cells_snoc ndShape (l := l.take k) (hs := hs) (by have := Hhs.out; rw [List.length_take]; show List.length hs = _; omega) x (A4, c4)
    rw [← Htk.out] at hcs
    go_roundw
    case rel =>
     refine ⟨k + 1, c3, A3, hs ++ [(A4, c4)], by omega, by go_num, rfl, Lib.hid (by simp [Hhs.out]), ?_, ?_, Lib.hid (fun i h g h1 h2 h3 => ?_), hb3⟩
     · exact (congrArg (fun xs => World.ownsRow w3 w.heap.size 59 7 (.slice A3 (k + 1) c3) (k + 1) xs) hcs).mpr own3
     · rw [Htk.out, List.map_append]
       exact M3
     · have h4 := (M2.block h1 h2).2
       rcases hat3 with h5 | h5
       · rw [slice_block, slice_block] at h5
         exact Hap2.out i h g h1 h2 (by rw [← h5]; exact h3)
       · rw [slice_block, h3] at h5
         have := Option.some.inj h5
         simp at this
         omega
    case measure => simp [intOf]; omega
  · have e : k = l.length := by omega
    subst e
    clear hlt
    go_wp2
    refine HP.out A' c' wr ⟨hs, Hhs.out, by simpa using own, by simpa using M, fun g hg => (own.lt g (by rw [slice_block]; exact hg)).2, fun i h g h1 h2 => ⟨(M.block h1 h2).2, Hap.out i h g h1 h2⟩⟩ hb
end Go.Proofs.YtjjmpfmhggcjiaaGreatDoor
