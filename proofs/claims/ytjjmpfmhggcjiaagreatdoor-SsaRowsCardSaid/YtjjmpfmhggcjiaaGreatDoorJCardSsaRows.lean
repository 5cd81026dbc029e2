/-
  SsaRows: what the walk gives, for every argument that can be read, as the given statement has it: the law answers true and its arguments read as they did.
-/
import Derived.Test.YtjjmpfmhggcjiaaGreatDoorCards
import Derived.Test.YtjjmpfmhggcjiaaGreatDoorTie
import Derived.Test.YtjjmpfmhggcjiaaGreatDoorJLw3
import Derived.Test.YtjjmpfmhggcjiaaGreatDoorJFrame
set_option linter.unusedSimpArgs false
set_option linter.unusedVariables false
namespace Go.Proofs.YtjjmpfmhggcjiaaGreatDoor.ssaRows
open Go.ChangeShapes Go.WideShapes Go.ChangeAt Go.RowKit
theorem laid_is : LaidIs Rows.ssaRowsRow.laid [1, 2, 3, 4, 5, 6, 7, 8, 9, 10, 11, 12, 13, 14] := (.skip (.skip (.sent (by decide) rfl ⟨_, rfl⟩ (.sent (by decide) rfl ⟨_, rfl⟩ (.sent (by decide) rfl ⟨_, rfl⟩ (.sent (by decide) rfl ⟨_, rfl⟩ (.sent (by decide) rfl ⟨_, rfl⟩ (.sent (by decide) rfl ⟨_, rfl⟩ (.sent (by decide) rfl ⟨_, rfl⟩ (.sent (by decide) rfl ⟨_, rfl⟩ (.sent (by decide) rfl ⟨_, rfl⟩ (.sent (by decide) rfl ⟨_, rfl⟩ (.sent (by decide) rfl ⟨_, rfl⟩ (.sent (by decide) rfl ⟨_, rfl⟩ (.sent (by decide) rfl ⟨_, rfl⟩ (.sent (by decide) rfl ⟨_, rfl⟩ (.skip .nil)))))))))))))))))
theorem door_met (os : Os) : laidMetH Tryz.prog Rows.ssaRowsRow.laid (((World.laidAll Tryz.prog os Rows.ssaRowsRow.laid).forCall (fun _ _ => 0) ⟨#[], #[Value.slice none 0 0, Value.int .i64 0], []⟩).memory) := by
  rw [MakeChecks.laidMetH_plain _ _ _ (by kernel_rfl)]
  exact laidMet_laidAll _ (by kernel_rfl) (by kernel_rfl)
theorem reads (os : Os) {H : Type} (enc : TypeId × Value → H) : ∃ places, DataW.whole enc Tryz.prog (((World.laidAll Tryz.prog os Rows.ssaRowsRow.laid).forCall (fun _ _ => 0) ⟨#[], #[Value.slice none 0 0, Value.int .i64 0], []⟩).memory) Tryz.f4.params.toList Rows.ssaRowsSpec.vars false [Value.slice none 0 0, Value.int .i64 0] 8 = some ([.nil, .lit (.int .i64 0)], [], places) :=
  ⟨[], by kernel_rfl⟩
set_option maxRecDepth 100000 in
theorem contract (H : Type) (enc : TypeId × Value → H) (W : World) (base : Nat) (args : Array Value) (ds gs : List (DataW H)) (before : List MemPlace)
    (hval : ∀ (j : Nat) t v, Tryz.f4.params[j]? = some t → args[j]? = some v → Value.okWide Tryz.prog W .any base t v)
    (hW : DataW.Whole enc Tryz.prog Tryz.f4.params.toList Rows.ssaRowsSpec.vars false W args.toList ds gs before) (hL : laidMetH Tryz.prog Rows.ssaRowsRow.laid W) :
    Calls Tryz.prog 4 args W fun e W' => ∃ v, e = .returned v ∧ Rows.ssaRowsSpec.post enc Tryz.prog Tryz.f4 false true false false W args v W' := by
  have hW' := hW
  obtain ⟨p, q, hA0, hV, rfl, hfz, hnd⟩ := hW
  have hA : DataW.TrodAll enc Tryz.prog W 0 (fun _ => true) true Tryz.f4.params.toList args.toList ds p := hA0
  rw [Tryz.params4] at hA hval
  obtain ⟨v0, vs0, d0, ds0, p0, q0, hargs, rfl, rfl, h0, r0⟩ := trodAll_cons hA
  obtain ⟨v1, vs1, d1, ds1, p1, q1, rfl, rfl, rfl, h1, r1⟩ := trodAll_cons r0
  obtain ⟨rfl, rfl, rfl⟩ := trodAll_nil r1
  obtain rfl : args = #[v0, v1] := by cases args; simp_all
  obtain ⟨rfl, rfl⟩ := trodVars_none hV
  clear hA0
  obtain ⟨a, hs⟩ := sent_of_laid hL (by kernel_rfl) laid_is
  obtain ⟨A, n, c, l, rfl, hrd, _, hmax⟩ := open_ints_rd Tryz.underlying47 Tryz.underlying3 (by kernel_rfl) (hval 0 47 v0 rfl rfl) h0
  obtain ⟨y, rfl, rfl, rfl, _⟩ := open_int Tryz.underlying3 (hval 1 3 v1 rfl rfl) h1
  have walk : Calls Tryz.prog 4 #[.slice A n c, .int .i64 y] W fun e W' => e = .returned (.bool true) ∧ Below W.heap.size W W' := by
    by_cases hn : n ≤ 100
    · exact ssaRows_walk a _ W hs (Nat.le_refl _) A n c l hrd hn y
    · exact ssaRows_big a _ W hs (Nat.le_refl _) A n c (by omega) hmax y
  refine walk.mono fun e W' ⟨he, hb⟩ => ?_
  subst he
  exact ⟨_, rfl, law_post laid_out rfl rfl Tryz.underlying4 rfl rfl rfl (by rw [Tryz.params4]; intro t ht; simp at ht; rcases ht with rfl | rfl <;> exact ⟨by kernel_rfl, of_decide_eq_true (by kernel_rfl)⟩) hW' hb⟩
set_option maxRecDepth 100000 in
theorem lifted (os : Os) (started : os.Started) (H : Type) (enc : TypeId × Value → H) (F : Stop.Interp) :
    ReturnsInHanded {} Tryz.checked os 4 .any ((OpenSpec.ofChange Rows.ssaRowsSpec).preRow enc Tryz.prog Tryz.f4 Rows.ssaRowsRow.domain false Rows.ssaRowsRow.laid) (((OpenSpec.ofChange Rows.ssaRowsSpec).at F).post enc Tryz.prog Tryz.f4 false true false false) := by
  obtain ⟨places, hx⟩ := reads os enc
  refine returnsInHanded_of_row (C := Tryz.checked) (s := OpenSpec.ofChange Rows.ssaRowsSpec) own_knob started (by kernel_rfl) Tryz.func4
    (witness_row_atRef (enc := enc) (C := Tryz.checked) false (World.laidAll Tryz.prog os Rows.ssaRowsRow.laid) #[Value.slice none 0 0, Value.int .i64 0] (World.laidAll_os _ _ _) (by kernel_rfl) (by kernel_rfl) (by kernel_rfl)
      (OpenSpec.preRow_of_cond 8 hx (by kernel_rfl) (fun k hk => by cases hk) (by kernel_rfl) (door_met os))) ?_
  intro W base args ds gs before hval hW _ _ _ hL _ _
  exact contract H enc W base args ds gs before hval hW hL
set_option maxHeartbeats 4000000 in
theorem closed : joinedFacts Tryz.pinned.checked.prog 4 Tryz.f4 (OpenSpec.ofChange Rows.ssaRowsSpec).bare Rows.ssaRowsRow = true := by
  unfold joinedFacts
  simp only [Bool.and_eq_true]
  repeat' (refine And.intro ?_ ?_)
  all_goals (as_aux_lemma => kernel_rfl)
theorem said : Rows.SsaRowsSaid :=
  OpenClaim.holds_of_cond 4 Tryz.f4 rfl rfl rfl rfl rfl rfl rfl ⟨rfl, rfl, rfl, rfl, rfl⟩ rfl rfl rfl rfl rfl (by kernel_rfl) Tryz.func4 closed
    (of_decide_eq_true (by kernel_rfl)) (by unfold Func.isWrapper; first | (rw [if_pos (by decide +kernel)]; kernel_rfl) | (rw [if_neg (by decide +kernel)]; exact ⟨rfl, rfl⟩))
    (fun os started H enc _ F => by rw [OpenClaim.pre_eq_preRow]; exact lifted os started H enc F)
theorem plain (f : FuncId) (fn : Func) (hf : Tryz.pinned.checked.prog.funcNamed "overdrive/overdrivelaw16.SsaRows" = some f) (hfn : Tryz.pinned.checked.prog.funcs[f]? = some fn) :
    true = Tryz.pinned.checked.prog.looks [] ∧ ∀ (j : Nat) t, fn.params[j]? = some t → Tryz.pinned.checked.prog.wantsStandIn t = false := by
  obtain rfl : f = 4 := Option.some.inj ((show Tryz.prog.funcNamed "overdrive/overdrivelaw16.SsaRows" = some 4 by kernel_rfl).symm.trans hf) |>.symm
  obtain rfl : fn = Tryz.f4 := (Option.some.inj (Tryz.func4.symm.trans hfn)).symm
  refine ⟨by kernel_rfl, fun j t ht => ?_⟩
  rw [Tryz.params4] at ht
  have hm : t = 47 ∨ t = 3 := by simpa [or_comm, or_left_comm, or_assoc] using Array.mem_of_getElem? ht
  rcases hm with rfl | rfl
  · exact (show Tryz.prog.wantsStandIn 47 = false by kernel_rfl)
  · exact (show Tryz.prog.wantsStandIn 3 = false by kernel_rfl)
/-- THE CARD. -/
theorem card : Rows.SsaRowsCardSaid :=
  Claim7.holds_tied_plain_at .later [] _ _ _ _ said (fun _ h => by cases h) (by kernel_rfl) (fun _ h => by cases h) ssaRows_row_tie rfl ⟨rfl, rfl⟩ (by kernel_rfl) rfl plain (by kernel_rfl)
end Go.Proofs.YtjjmpfmhggcjiaaGreatDoor.ssaRows
