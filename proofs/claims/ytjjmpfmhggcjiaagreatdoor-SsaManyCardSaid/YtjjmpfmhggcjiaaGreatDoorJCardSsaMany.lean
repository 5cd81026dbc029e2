/-
 SsaMany: what the walk gives, for every argument that can be read, as the given statement has it: the law answers true and its arguments read as they did.
-/
import Derived.Test.YtjjmpfmhggcjiaaGreatDoorCards
import Derived.Test.YtjjmpfmhggcjiaaGreatDoorTie
import Derived.Test.YtjjmpfmhggcjiaaGreatDoorJLw4
import Derived.Test.YtjjmpfmhggcjiaaGreatDoorJFrame
set_option linter.unusedSimpArgs false
set_option linter.unusedVariables false
namespace Go.Proofs.YtjjmpfmhggcjiaaGreatDoor.ssaMany
open Go.ChangeShapes Go.WideShapes Go.ChangeAt Go.RowKit
theorem laid_is : LaidIs Rows.ssaManyRow.laid [1, 2, 3, 4, 5, 6, 7, 8, 9, 10, 11, 12, 13, 14] := (.skip (.skip (.sent (by decide) rfl ⟨_, rfl⟩ (.sent (by decide) rfl ⟨_, rfl⟩ (.sent (by decide) rfl ⟨_, rfl⟩ (.sent (by decide) rfl ⟨_, rfl⟩ (.sent (by decide) rfl ⟨_, rfl⟩ (.sent (by decide) rfl ⟨_, rfl⟩ (.sent (by decide) rfl ⟨_, rfl⟩ (.sent (by decide) rfl ⟨_, rfl⟩ (.sent (by decide) rfl ⟨_, rfl⟩ (.sent (by decide) rfl ⟨_, rfl⟩ (.sent (by decide) rfl ⟨_, rfl⟩ (.sent (by decide) rfl ⟨_, rfl⟩ (.sent (by decide) rfl ⟨_, rfl⟩ (.sent (by decide) rfl ⟨_, rfl⟩ (.skip .nil)))))))))))))))))
theorem door_met (os : Os) : laidMetH Tryz.prog Rows.ssaManyRow.laid (((World.laidAll Tryz.prog os Rows.ssaManyRow.laid).forCall (fun _ _ => 0) ⟨#[], #[Value.int .i64 0, Value.bool false], []⟩).memory) := by
 rw [MakeChecks.laidMetH_plain _ _ _ (by kernel_rfl)]
 exact laidMet_laidAll _ (by kernel_rfl) (by kernel_rfl)
theorem reads (os : Os) {H : Type} (enc : TypeId × Value → H) : ∃ places, DataW.whole enc Tryz.prog (((World.laidAll Tryz.prog os Rows.ssaManyRow.laid).forCall (fun _ _ => 0) ⟨#[], #[Value.int .i64 0, Value.bool false], []⟩).memory) Tryz.f6.params.toList Rows.ssaManySpec.vars false [Value.int .i64 0, Value.bool false] 8 = some ([.lit (.int .i64 0), .lit (.bool false)], [], places) :=
 ⟨[], by kernel_rfl⟩
set_option maxRecDepth 100000 in
theorem contract (H : Type) (enc : TypeId × Value → H) (W : World) (base : Nat) (args : Array Value) (ds gs : List (DataW H)) (before : List MemPlace)
 (hval : ∀ (j : Nat) t v, Tryz.f6.params[j]? = some t → args[j]? = some v → Value.okWide Tryz.prog W .any base t v)
 (hW : DataW.Whole enc Tryz.prog Tryz.f6.params.toList Rows.ssaManySpec.vars false W args.toList ds gs before) (hL : laidMetH Tryz.prog Rows.ssaManyRow.laid W) :
 Calls Tryz.prog 6 args W fun e W' => ∃ v, e = .returned v ∧ Rows.ssaManySpec.post enc Tryz.prog Tryz.f6 false true false false W args v W' := by
 have hW' := hW
 obtain ⟨p, q, hA0, hV, rfl, hfz, hnd⟩ := hW
 have hA : DataW.TrodAll enc Tryz.prog W 0 (fun _ => true) true Tryz.f6.params.toList args.toList ds p := hA0
 rw [Tryz.params6] at hA hval
 obtain ⟨v0, vs0, d0, ds0, p0, q0, hargs, rfl, rfl, h0, r0⟩ := trodAll_cons hA
 obtain ⟨v1, vs1, d1, ds1, p1, q1, rfl, rfl, rfl, h1, r1⟩ := trodAll_cons r0
 obtain ⟨rfl, rfl, rfl⟩ := trodAll_nil r1
 obtain rfl : args = #[v0, v1] := by cases args; simp_all
 obtain ⟨rfl, rfl⟩ := trodVars_none hV
 clear hA0
 obtain ⟨a, hs⟩ := sent_of_laid hL (by kernel_rfl) laid_is
 obtain ⟨x, rfl, rfl, rfl, hx⟩ := open_int Tryz.underlying3 (hval 0 3 v0 rfl rfl) h0
 obtain ⟨z, rfl, rfl, rfl⟩ := open_bool Tryz.underlying4 (hval 1 4 v1 rfl rfl) h1
 have walk : Calls Tryz.prog 6 #[.int .i64 x, .bool z] W fun e W' => e = .returned (.bool true) ∧ Below W.heap.size W W' := ssaMany_walk a _ W hs (Nat.le_refl _) x (of_wf64 hx).1 (of_wf64 hx).2 z
 refine walk.mono fun e W' ⟨he, hb⟩ => ?_
 subst he
 exact ⟨_, rfl, law_post laid_out rfl rfl Tryz.underlying4 rfl rfl rfl (by rw [Tryz.params6]; intro t ht; simp at ht; rcases ht with rfl | rfl <;> exact ⟨by kernel_rfl, of_decide_eq_true (by kernel_rfl)⟩) hW' hb⟩
set_option maxRecDepth 100000 in
theorem lifted (os : Os) (started : os.Started) (H : Type) (enc : TypeId × Value → H) (F : Stop.Interp) :
 ReturnsInHanded {} Tryz.checked os 6 .any ((OpenSpec.ofChange Rows.ssaManySpec).preRow enc Tryz.prog Tryz.f6 Rows.ssaManyRow.domain false Rows.ssaManyRow.laid) (((OpenSpec.ofChange Rows.ssaManySpec).at F).post enc Tryz.prog Tryz.f6 false true false false) := by
 obtain ⟨places, hx⟩ := reads os enc
 refine returnsInHanded_of_row (C := Tryz.checked) (s := OpenSpec.ofChange Rows.ssaManySpec) own_knob started (by kernel_rfl) Tryz.func6
  (witness_row_atRef (enc := enc) (C := Tryz.checked) false (World.laidAll Tryz.prog os Rows.ssaManyRow.laid) #[Value.int .i64 0, Value.bool false] (World.laidAll_os _ _ _) (by kernel_rfl) (by kernel_rfl) (by kernel_rfl)
   (OpenSpec.preRow_of_cond 8 hx (by kernel_rfl) (fun k hk => by cases hk) (by kernel_rfl) (door_met os))) ?_
 intro W base args ds gs before hval hW _ _ _ hL _ _
 exact contract H enc W base args ds gs before hval hW hL
set_option maxHeartbeats 4000000 in
theorem closed : joinedFacts Tryz.pinned.checked.prog 6 Tryz.f6 (OpenSpec.ofChange Rows.ssaManySpec).bare Rows.ssaManyRow = true := by
 unfold joinedFacts
 simp only [Bool.and_eq_true]
 repeat' (refine And.intro ?_ ?_)
 all_goals (as_aux_lemma => kernel_rfl)
theorem said : Rows.SsaManySaid :=
 OpenClaim.holds_of_cond 6 Tryz.f6 rfl rfl rfl rfl rfl rfl rfl ⟨rfl, rfl, rfl, rfl, rfl⟩ rfl rfl rfl rfl rfl (by kernel_rfl) Tryz.func6 closed
  (of_decide_eq_true (by kernel_rfl)) (by unfold Func.isWrapper; first | (rw [if_pos (by decide +kernel)]; kernel_rfl) | (rw [if_neg (by decide +kernel)]; exact ⟨rfl, rfl⟩))
  (fun os started H enc _ F => by rw [OpenClaim.pre_eq_preRow]; exact lifted os started H enc F)
theorem plain (f : FuncId) (fn : Func) (hf : Tryz.pinned.checked.prog.funcNamed "overdrive/overdrivelaw16.SsaMany" = some f) (hfn : Tryz.pinned.checked.prog.funcs[f]? = some fn) :
 true = Tryz.pinned.checked.prog.looks [] ∧ ∀ (j : Nat) t, fn.params[j]? = some t → Tryz.pinned.checked.prog.wantsStandIn t = false := by
 obtain rfl : f = 6 := Option.some.inj ((show Tryz.prog.funcNamed "overdrive/overdrivelaw16.SsaMany" = some 6 by kernel_rfl).symm.trans hf) |>.symm
 obtain rfl : fn = Tryz.f6 := (Option.some.inj (Tryz.func6.symm.trans hfn)).symm
 refine ⟨by kernel_rfl, fun j t ht => ?_⟩
 rw [Tryz.params6] at ht
 have hm : t = 3 ∨ t = 4 := by simpa [or_comm, or_left_comm, or_assoc] using Array.mem_of_getElem? ht
 rcases hm with rfl | rfl
 · exact (show Tryz.prog.wantsStandIn 3 = false by kernel_rfl)
 · exact (show Tryz.prog.wantsStandIn 4 = false by kernel_rfl)
/-- THE CARD. -/
theorem card : Rows.SsaManyCardSaid :=
 Claim7.holds_tied_plain_at .later [] _ _ _ _ said (fun _ h => by cases h) (by kernel_rfl) (fun _ h => by cases h) ssaMany_row_tie rfl ⟨rfl, rfl⟩ (by kernel_rfl) rfl plain (by kernel_rfl)
end Go.Proofs.YtjjmpfmhggcjiaaGreatDoor.ssaMany
