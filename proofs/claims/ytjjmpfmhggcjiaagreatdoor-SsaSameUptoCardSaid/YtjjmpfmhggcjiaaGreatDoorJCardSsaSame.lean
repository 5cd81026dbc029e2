/-
 SsaSame: what the walk gives, for every argument that can be read, as the given statement has it: the law answers true and its arguments read as they did, where they are together of bulk at most 1048576.
-/
import Derived.Test.YtjjmpfmhggcjiaaGreatDoorCards
import Derived.Test.YtjjmpfmhggcjiaaGreatDoorTie
import Derived.Test.YtjjmpfmhggcjiaaGreatDoorJLs1
import Derived.Test.YtjjmpfmhggcjiaaGreatDoorJTabs
import Derived.Test.YtjjmpfmhggcjiaaGreatDoorJPgOpenP
import Derived.Test.YtjjmpfmhggcjiaaGreatDoorJFnOp2
set_option linter.unusedSimpArgs false
set_option linter.unusedVariables false
namespace Go.Proofs.YtjjmpfmhggcjiaaGreatDoor.ssaSame
open Go.ChangeShapes Go.WideShapes Go.ChangeAt Go.RowKit
theorem laid_is : LaidIs Rows.ssaSameRow.laid [1, 2, 3, 4, 5, 6, 7, 8, 9, 10, 11, 12, 13, 14] := (.skip (.skip (.skip (.skip (.sent (by decide) rfl ⟨_, rfl⟩ (.sent (by decide) rfl ⟨_, rfl⟩ (.sent (by decide) rfl ⟨_, rfl⟩ (.sent (by decide) rfl ⟨_, rfl⟩ (.sent (by decide) rfl ⟨_, rfl⟩ (.sent (by decide) rfl ⟨_, rfl⟩ (.sent (by decide) rfl ⟨_, rfl⟩ (.sent (by decide) rfl ⟨_, rfl⟩ (.sent (by decide) rfl ⟨_, rfl⟩ (.sent (by decide) rfl ⟨_, rfl⟩ (.sent (by decide) rfl ⟨_, rfl⟩ (.sent (by decide) rfl ⟨_, rfl⟩ (.sent (by decide) rfl ⟨_, rfl⟩ (.sent (by decide) rfl ⟨_, rfl⟩ (.skip (.skip (.skip (.skip (.skip (.skip .nil))))))))))))))))))))))))
theorem door_met (os : Os) : laidMetH Tryz.prog Rows.ssaSameRow.laid (((World.laidAll Tryz.prog os Rows.ssaSameRow.laid).forCall (fun _ _ => 0) ⟨#[], #[Value.agg #[Value.int .i64 0, Value.int .i64 0, Value.slice none 0 0, Value.slice none 0 0, Value.slice none 0 0], Value.agg #[Value.int .i64 0, Value.int .i64 0, Value.slice none 0 0, Value.slice none 0 0, Value.slice none 0 0]], []⟩).memory) := by
 rw [MakeChecks.laidMetH_plain _ _ _ (by kernel_rfl)]
 exact laidMet_laidAll _ (by kernel_rfl) (by kernel_rfl)
theorem reads (os : Os) {H : Type} (enc : TypeId × Value → H) : ∃ places, DataW.whole enc Tryz.prog (((World.laidAll Tryz.prog os Rows.ssaSameRow.laid).forCall (fun _ _ => 0) ⟨#[], #[Value.agg #[Value.int .i64 0, Value.int .i64 0, Value.slice none 0 0, Value.slice none 0 0, Value.slice none 0 0], Value.agg #[Value.int .i64 0, Value.int .i64 0, Value.slice none 0 0, Value.slice none 0 0, Value.slice none 0 0]], []⟩).memory) Tryz.f7.params.toList Rows.ssaSameSpec.vars false [Value.agg #[Value.int .i64 0, Value.int .i64 0, Value.slice none 0 0, Value.slice none 0 0, Value.slice none 0 0], Value.agg #[Value.int .i64 0, Value.int .i64 0, Value.slice none 0 0, Value.slice none 0 0, Value.slice none 0 0]] 8 = some ([.agg [.lit (.int .i64 0), .lit (.int .i64 0), .nil, .nil, .nil], .agg [.lit (.int .i64 0), .lit (.int .i64 0), .nil, .nil, .nil]], [], places) :=
 ⟨[], by kernel_rfl⟩
set_option maxRecDepth 100000 in
theorem contract (H : Type) (enc : TypeId × Value → H) (W : World) (base : Nat) (args : Array Value) (ds gs : List (DataW H)) (before : List MemPlace)
 (hval : ∀ (j : Nat) t v, Tryz.f7.params[j]? = some t → args[j]? = some v → Value.okWide Tryz.prog W .any base t v)
 (hW : DataW.Whole enc Tryz.prog Tryz.f7.params.toList Rows.ssaSameSpec.vars false W args.toList ds gs before) (hL : laidMetH Tryz.prog Rows.ssaSameRow.laid W) (hcond : Rows.uptoSmall H (ds ++ gs) = true) :
 Calls Tryz.prog 7 args W fun e W' => ∃ v, e = .returned v ∧ Rows.ssaSameSpec.post enc Tryz.prog Tryz.f7 false true false false W args v W' := by
 have hW' := hW
 obtain ⟨p, q, hA0, hV, rfl, hfz, hnd⟩ := hW
 have hA : DataW.TrodAll enc Tryz.prog W 0 (fun _ => true) true Tryz.f7.params.toList args.toList ds p := hA0
 rw [Tryz.params7] at hA hval
 obtain ⟨v0, vs0, d0, ds0, p0, q0, hargs, rfl, rfl, h0, r0⟩ := trodAll_cons hA
 obtain ⟨v1, vs1, d1, ds1, p1, q1, rfl, rfl, rfl, h1, r1⟩ := trodAll_cons r0
 obtain ⟨rfl, rfl, rfl⟩ := trodAll_nil r1
 obtain rfl : args = #[v0, v1] := by cases args; simp_all
 obtain ⟨rfl, rfl⟩ := trodVars_none hV
 clear hA0
 obtain ⟨a, hs⟩ := sent_of_laid hL (by kernel_rfl) laid_is
 obtain ⟨An1, Ab1, As1, cn1, cb1, cs1, f, rfl, hf, jf, wf⟩ := open_fn (hval 0 30 v0 rfl rfl) h0
 obtain ⟨An2, Ab2, As2, cn2, cb2, cs2, g, rfl, hg, jg, wg⟩ := open_fn (hval 1 30 v1 rfl rfl) h1
 have hc : Rows.uptoBulkAll ([d0, d1] ++ []) ≤ 1048576 := of_decide_eq_true hcond
 simp only [List.append_nil, Rows.uptoBulkAll] at hc
 have walk : Calls Tryz.prog 7 #[fv An1 Ab1 As1 cn1 cb1 cs1 f, fv An2 Ab2 As2 cn2 cb2 cs2 g] W fun e W' => e = .returned (.bool true) ∧ Below W.heap.size W W' :=
  ssaSame_walk a _ W hs (Nat.le_refl _) Lib.goPrintTabs (tabs_of_laid hL) An1 Ab1 As1 An2 Ab2 As2 cn1 cb1 cs1 cn2 cb2 cs2 f g hf hg (fn_ok _ jf (by omega)) (fn_ok _ jg (by omega))
 refine walk.mono fun e W' ⟨he, hb⟩ => ?_
 subst he
 exact ⟨_, rfl, law_post laid_out rfl rfl Tryz.underlying4 rfl rfl rfl (by rw [Tryz.params7]; intro t ht; simp at ht; subst ht; exact ⟨by kernel_rfl, of_decide_eq_true (by kernel_rfl)⟩) hW' hb⟩
set_option maxRecDepth 100000 in
theorem lifted (os : Os) (started : os.Started) (H : Type) (enc : TypeId × Value → H) (F : Stop.Interp) :
 ReturnsInHanded {} Tryz.checked os 7 .any ((Rows.OpenSpec.upto Rows.ssaSameSpec).preRow enc Tryz.prog Tryz.f7 Rows.ssaSameUptoRow.domain false Rows.ssaSameUptoRow.laid) (((Rows.OpenSpec.upto Rows.ssaSameSpec).at F).post enc Tryz.prog Tryz.f7 false true false false) := by
 obtain ⟨places, hx⟩ := reads os enc
 refine returnsInHanded_of_row (C := Tryz.checked) (s := Rows.OpenSpec.upto Rows.ssaSameSpec) own_knob started (by kernel_rfl) Tryz.func7
  (witness_row_atRef (enc := enc) (C := Tryz.checked) false (World.laidAll Tryz.prog os Rows.ssaSameRow.laid) #[Value.agg #[Value.int .i64 0, Value.int .i64 0, Value.slice none 0 0, Value.slice none 0 0, Value.slice none 0 0], Value.agg #[Value.int .i64 0, Value.int .i64 0, Value.slice none 0 0, Value.slice none 0 0, Value.slice none 0 0]] (World.laidAll_os _ _ _) (by kernel_rfl) (by kernel_rfl) (by kernel_rfl)
   (OpenSpec.preRow_of_cond 8 hx (by kernel_rfl) (fun k hk => by cases hk; kernel_rfl) (by kernel_rfl) (door_met os))) ?_
 intro W base args ds gs before hval hW _ hcond _ hL _ _
 exact contract H enc W base args ds gs before hval hW hL (hcond _ rfl)
set_option maxHeartbeats 4000000 in
theorem closed : joinedFacts Tryz.pinned.checked.prog 7 Tryz.f7 (Rows.OpenSpec.upto Rows.ssaSameSpec).bare Rows.ssaSameUptoRow = true := by
 unfold joinedFacts
 simp only [Bool.and_eq_true]
 repeat' (refine And.intro ?_ ?_)
 all_goals (as_aux_lemma => kernel_rfl)
theorem said : Rows.SsaSameUptoSaid :=
 OpenClaim.holds_of_cond 7 Tryz.f7 rfl rfl rfl rfl rfl rfl rfl ⟨rfl, rfl, rfl, rfl, rfl⟩ rfl rfl rfl rfl rfl (by kernel_rfl) Tryz.func7 closed
  (of_decide_eq_true (by kernel_rfl)) (by unfold Func.isWrapper; first | (rw [if_pos (by decide +kernel)]; kernel_rfl) | (rw [if_neg (by decide +kernel)]; exact ⟨rfl, rfl⟩))
  (fun os started H enc _ F => by rw [OpenClaim.pre_eq_preRow]; exact lifted os started H enc F)
theorem plain (f : FuncId) (fn : Func) (hf : Tryz.pinned.checked.prog.funcNamed "overdrive/overdrivelaw16.SsaSame" = some f) (hfn : Tryz.pinned.checked.prog.funcs[f]? = some fn) :
 true = Tryz.pinned.checked.prog.looks [] ∧ ∀ (j : Nat) t, fn.params[j]? = some t → Tryz.pinned.checked.prog.wantsStandIn t = false := by
 obtain rfl : f = 7 := Option.some.inj ((show Tryz.prog.funcNamed "overdrive/overdrivelaw16.SsaSame" = some 7 by kernel_rfl).symm.trans hf) |>.symm
 obtain rfl : fn = Tryz.f7 := (Option.some.inj (Tryz.func7.symm.trans hfn)).symm
 refine ⟨by kernel_rfl, fun j t ht => ?_⟩
 rw [Tryz.params7] at ht
 obtain rfl : t = 30 := by simpa using Array.mem_of_getElem? ht
 exact (show Tryz.prog.wantsStandIn 30 = false by kernel_rfl)
/-- THE CARD. -/
theorem card : Rows.SsaSameUptoCardSaid :=
 Claim7.holds_tied_plain_at .later [] _ _ _ _ said (fun _ h => by cases h) (by kernel_rfl) (fun _ h => by cases h) ssaSameUpto_row_tie rfl ⟨rfl, rfl⟩ (by kernel_rfl) rfl plain (by kernel_rfl)
end Go.Proofs.YtjjmpfmhggcjiaaGreatDoor.ssaSame
