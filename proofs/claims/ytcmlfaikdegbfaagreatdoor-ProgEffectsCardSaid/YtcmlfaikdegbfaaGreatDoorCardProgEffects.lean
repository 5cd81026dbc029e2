/-
  ProgEffects: what the walk gives, for every argument that can be read, as the given statement has it: the law answers true and its arguments read as they did.
-/
import Derived.Test.YtcmlfaikdegbfaaGreatDoorCards
import Derived.Test.YtcmlfaikdegbfaaGreatDoorTie
import Derived.Test.YtcmlfaikdegbfaaGreatDoorPgEffLaw
import Derived.Test.YtcmlfaikdegbfaaGreatDoorPgOpenP
import Derived.Test.YtcmlfaikdegbfaaGreatDoorFrameTab
import Derived.Test.YtcmlfaikdegbfaaGreatDoorFrame
namespace Go.Proofs.YtcmlfaikdegbfaaGreatDoor.progEffects
open Go.ChangeShapes Go.WideShapes Go.ChangeAt Go.RowKit
theorem laid_is : LaidIs Rows.progEffectsRow.laid [1, 2, 3, 4, 5, 6, 7, 8, 9, 10, 11, 12, 13, 14] := (.skip (.sent (by decide) rfl ⟨_, rfl⟩ (.sent (by decide) rfl ⟨_, rfl⟩ (.sent (by decide) rfl ⟨_, rfl⟩ (.sent (by decide) rfl ⟨_, rfl⟩ (.sent (by decide) rfl ⟨_, rfl⟩ (.sent (by decide) rfl ⟨_, rfl⟩ (.sent (by decide) rfl ⟨_, rfl⟩ (.sent (by decide) rfl ⟨_, rfl⟩ (.sent (by decide) rfl ⟨_, rfl⟩ (.sent (by decide) rfl ⟨_, rfl⟩ (.sent (by decide) rfl ⟨_, rfl⟩ (.sent (by decide) rfl ⟨_, rfl⟩ (.sent (by decide) rfl ⟨_, rfl⟩ (.sent (by decide) rfl ⟨_, rfl⟩ (.skip (.skip (.skip .nil))))))))))))))))))
theorem door_met (os : Os) : laidMetH Tryz.prog Rows.progEffectsRow.laid (((World.laidAll Tryz.prog os Rows.progEffectsRow.laid).forCall (fun _ _ => 0) ⟨#[], #[Value.agg #[Value.slice none 0 0, Value.slice none 0 0], Value.int .i64 0, Value.int .i64 0, Value.int .i64 0, Value.int .i64 0, Value.int .i64 0], []⟩).memory) := by
  rw [MakeChecks.laidMetH_plain _ _ _ (by kernel_rfl)]
  exact laidMet_laidAll _ (by kernel_rfl) (by kernel_rfl)
theorem reads (os : Os) {H : Type} (enc : TypeId × Value → H) : ∃ places, DataW.whole enc Tryz.prog (((World.laidAll Tryz.prog os Rows.progEffectsRow.laid).forCall (fun _ _ => 0) ⟨#[], #[Value.agg #[Value.slice none 0 0, Value.slice none 0 0], Value.int .i64 0, Value.int .i64 0, Value.int .i64 0, Value.int .i64 0, Value.int .i64 0], []⟩).memory) Tryz.f3.params.toList Rows.progEffectsSpec.vars false [Value.agg #[Value.slice none 0 0, Value.slice none 0 0], Value.int .i64 0, Value.int .i64 0, Value.int .i64 0, Value.int .i64 0, Value.int .i64 0] 8 = some ([.agg [.nil, .nil], .lit (.int .i64 0), .lit (.int .i64 0), .lit (.int .i64 0), .lit (.int .i64 0), .lit (.int .i64 0)], [], places) :=
  ⟨[], by kernel_rfl⟩
set_option maxRecDepth 100000 in
theorem contract (H : Type) (enc : TypeId × Value → H) (W : World) (base : Nat) (args : Array Value) (ds gs : List (DataW H)) (before : List MemPlace)
    (hval : ∀ (j : Nat) t v, Tryz.f3.params[j]? = some t → args[j]? = some v → Value.okWide Tryz.prog W .any base t v)
    (hW : DataW.Whole enc Tryz.prog Tryz.f3.params.toList Rows.progEffectsSpec.vars false W args.toList ds gs before) (hL : laidMetH Tryz.prog Rows.progEffectsRow.laid W) :
    Calls Tryz.prog 3 args W fun e W' => ∃ v, e = .returned v ∧ Rows.progEffectsSpec.post enc Tryz.prog Tryz.f3 false true false false W args v W' := by
  have hW' := hW
  obtain ⟨p, q, hA0, hV, rfl, hfz, hnd⟩ := hW
  have hA : DataW.TrodAll enc Tryz.prog W 0 (fun _ => true) true Tryz.f3.params.toList args.toList ds p := hA0
  rw [Tryz.params3] at hA hval
  obtain ⟨v0, vs0, d0, ds0, p0, q0, hargs, rfl, rfl, h0, r0⟩ := trodAll_cons hA
  obtain ⟨v1, vs1, d1, ds1, p1, q1, rfl, rfl, rfl, h1, r1⟩ := trodAll_cons r0
  obtain ⟨v2, vs2, d2, ds2, p2, q2, rfl, rfl, rfl, h2, r2⟩ := trodAll_cons r1
  obtain ⟨v3, vs3, d3, ds3, p3, q3, rfl, rfl, rfl, h3, r3⟩ := trodAll_cons r2
  obtain ⟨v4, vs4, d4, ds4, p4, q4, rfl, rfl, rfl, h4, r4⟩ := trodAll_cons r3
  obtain ⟨v5, vs5, d5, ds5, p5, q5, rfl, rfl, rfl, h5, r5⟩ := trodAll_cons r4
  obtain ⟨rfl, rfl, rfl⟩ := trodAll_nil r5
  obtain rfl : args = #[v0, v1, v2, v3, v4, v5] := by cases args; simp_all
  obtain ⟨rfl, rfl⟩ := trodVars_none hV
  clear hA0
  obtain ⟨a, hs⟩ := sent_of_laid hL (by kernel_rfl) laid_is
  obtain ⟨Ac, cc, Am, cm, p1, rfl, hr1, hk1⟩ := open_prog (hval 0 25 v0 rfl rfl) h0
  obtain ⟨x1, rfl, rfl, rfl, _⟩ := open_int Tryz.underlying3 (hval 1 3 v1 rfl rfl) h1
  obtain ⟨x2, rfl, rfl, rfl, _⟩ := open_int Tryz.underlying3 (hval 2 3 v2 rfl rfl) h2
  obtain ⟨x3, rfl, rfl, rfl, _⟩ := open_int Tryz.underlying3 (hval 3 3 v3 rfl rfl) h3
  obtain ⟨x4, rfl, rfl, rfl, _⟩ := open_int Tryz.underlying3 (hval 4 3 v4 rfl rfl) h4
  obtain ⟨x5, rfl, rfl, rfl, _⟩ := open_int Tryz.underlying3 (hval 5 3 v5 rfl rfl) h5
  have ht : Tab W := tab_of_laid (g := 4) (t := 83) (e := 5) (n := 256) hL (by kernel_rfl) (by kernel_rfl) (by kernel_rfl) (by kernel_rfl) (by kernel_rfl) (by kernel_rfl) (by kernel_rfl) 16 rfl
  have walk : Calls Tryz.prog 3 #[pv Ac cc Am cm p1, .int .i64 x1, .int .i64 x2, .int .i64 x3, .int .i64 x4, .int .i64 x5] W fun e W' => e = .returned (.bool true) ∧ Below W.heap.size W W' := progEffects_walk a _ W hs (Nat.le_refl _) ht Ac Am cc cm p1 hk1 hr1 x1 x2 x3 x4 x5
  refine walk.mono fun e W' ⟨he, hb⟩ => ?_
  subst he
  exact ⟨_, rfl, law_post laid_out rfl rfl Tryz.underlying4 rfl rfl rfl (by rw [Tryz.params3]; intro t ht; simp at ht; rcases ht with rfl | rfl <;> exact ⟨by kernel_rfl, of_decide_eq_true (by kernel_rfl)⟩) hW' hb⟩
set_option maxRecDepth 100000 in
theorem lifted (os : Os) (started : os.Started) (H : Type) (enc : TypeId × Value → H) (F : Stop.Interp) :
    ReturnsInHanded {} Tryz.checked os 3 .any ((OpenSpec.ofChange Rows.progEffectsSpec).preRow enc Tryz.prog Tryz.f3 Rows.progEffectsRow.domain false Rows.progEffectsRow.laid) (((OpenSpec.ofChange Rows.progEffectsSpec).at F).post enc Tryz.prog Tryz.f3 false true false false) := by
  obtain ⟨places, hx⟩ := reads os enc
  refine returnsInHanded_of_row (C := Tryz.checked) (s := OpenSpec.ofChange Rows.progEffectsSpec) own_knob started (by kernel_rfl) Tryz.func3
    (witness_row_atRef (enc := enc) (C := Tryz.checked) false (World.laidAll Tryz.prog os Rows.progEffectsRow.laid) #[Value.agg #[Value.slice none 0 0, Value.slice none 0 0], Value.int .i64 0, Value.int .i64 0, Value.int .i64 0, Value.int .i64 0, Value.int .i64 0] (World.laidAll_os _ _ _) (by kernel_rfl) (by kernel_rfl) (by kernel_rfl)
      (OpenSpec.preRow_of_cond 8 hx (by kernel_rfl) (fun k hk => by cases hk) (by kernel_rfl) (door_met os))) ?_
  intro W base args ds gs before hval hW _ _ _ hL _ _
  exact contract H enc W base args ds gs before hval hW hL
theorem said : Rows.ProgEffectsSaid :=
  OpenClaim.holds_of_cond 3 Tryz.f3 rfl rfl rfl rfl rfl rfl rfl ⟨rfl, rfl, rfl, rfl, rfl⟩ rfl rfl rfl rfl rfl (by kernel_rfl) Tryz.func3 (by kernel_rfl)
    (of_decide_eq_true (by kernel_rfl)) (by unfold Func.isWrapper; first | (rw [if_pos (by decide +kernel)]; kernel_rfl) | (rw [if_neg (by decide +kernel)]; exact ⟨rfl, rfl⟩))
    (fun os started H enc _ F => by rw [OpenClaim.pre_eq_preRow]; exact lifted os started H enc F)
theorem plain (f : FuncId) (fn : Func) (hf : Tryz.pinned.checked.prog.funcNamed "overdrive/overdrivelaw3.ProgEffects" = some f) (hfn : Tryz.pinned.checked.prog.funcs[f]? = some fn) :
    true = Tryz.pinned.checked.prog.looks [] ∧ ∀ (j : Nat) t, fn.params[j]? = some t → Tryz.pinned.checked.prog.wantsStandIn t = false := by
  obtain rfl : f = 3 := Option.some.inj ((show Tryz.prog.funcNamed "overdrive/overdrivelaw3.ProgEffects" = some 3 by kernel_rfl).symm.trans hf) |>.symm
  obtain rfl : fn = Tryz.f3 := (Option.some.inj (Tryz.func3.symm.trans hfn)).symm
  refine ⟨by kernel_rfl, fun j t ht => ?_⟩
  rw [Tryz.params3] at ht
  have hm : t = 25 ∨ t = 3 := by simpa [or_comm, or_left_comm, or_assoc] using Array.mem_of_getElem? ht
  rcases hm with rfl | rfl
  · exact (show Tryz.prog.wantsStandIn 25 = false by kernel_rfl)
  · exact (show Tryz.prog.wantsStandIn 3 = false by kernel_rfl)
/-- THE CARD. -/
theorem card : Rows.ProgEffectsCardSaid :=
  Claim7.holds_tied_plain_at .later [] _ _ _ _ said (fun _ h => by cases h) (by kernel_rfl) (fun _ h => by cases h) progEffects_row_tie rfl ⟨rfl, rfl⟩ (by kernel_rfl) rfl plain (by kernel_rfl)
end Go.Proofs.YtcmlfaikdegbfaaGreatDoor.progEffects
