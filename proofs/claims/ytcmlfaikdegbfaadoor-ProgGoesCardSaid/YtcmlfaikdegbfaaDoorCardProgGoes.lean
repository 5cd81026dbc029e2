/-
  ProgGoes: what the walk gives, for every argument that can be read, as the given statement has it: the law answers true and its arguments read as they did.
-/
import Derived.Test.YtcmlfaikdegbfaaDoorCards
import Derived.Test.YtcmlfaikdegbfaaDoorTie
import Derived.Test.YtcmlfaikdegbfaaDoorPgGoes
import Derived.Test.YtcmlfaikdegbfaaDoorPgOpen
import Derived.Test.YtcmlfaikdegbfaaDoorFrame
namespace Go.Proofs.YtcmlfaikdegbfaaDoor.progGoes
open Go.ChangeShapes Go.WideShapes Go.ChangeAt Go.RowKit
theorem laid_is : LaidIs Rows.progGoesRow.laid [1, 2, 3, 4, 5, 6, 7, 8, 9, 10, 11, 12, 13, 14] := (.skip (.sent (by decide) rfl ⟨_, rfl⟩ (.sent (by decide) rfl ⟨_, rfl⟩ (.sent (by decide) rfl ⟨_, rfl⟩ (.sent (by decide) rfl ⟨_, rfl⟩ (.sent (by decide) rfl ⟨_, rfl⟩ (.sent (by decide) rfl ⟨_, rfl⟩ (.sent (by decide) rfl ⟨_, rfl⟩ (.sent (by decide) rfl ⟨_, rfl⟩ (.sent (by decide) rfl ⟨_, rfl⟩ (.sent (by decide) rfl ⟨_, rfl⟩ (.sent (by decide) rfl ⟨_, rfl⟩ (.sent (by decide) rfl ⟨_, rfl⟩ (.sent (by decide) rfl ⟨_, rfl⟩ (.sent (by decide) rfl ⟨_, rfl⟩ (.skip .nil))))))))))))))))
theorem door_met (os : Os) : laidMetH Tryd.prog Rows.progGoesRow.laid (((World.laidAll Tryd.prog os Rows.progGoesRow.laid).forCall (fun _ _ => 0) ⟨#[], #[Value.slice none 0 0, Value.int .i64 0], []⟩).memory) := by
  rw [MakeChecks.laidMetH_plain _ _ _ (by kernel_rfl)]
  exact laidMet_laidAll _ (by kernel_rfl) (by kernel_rfl)
theorem reads (os : Os) {H : Type} (enc : TypeId × Value → H) : ∃ places, DataW.whole enc Tryd.prog (((World.laidAll Tryd.prog os Rows.progGoesRow.laid).forCall (fun _ _ => 0) ⟨#[], #[Value.slice none 0 0, Value.int .i64 0], []⟩).memory) Tryd.f6.params.toList Rows.progGoesSpec.vars false [Value.slice none 0 0, Value.int .i64 0] 8 = some ([.nil, .lit (.int .i64 0)], [], places) :=
  ⟨[], by kernel_rfl⟩
set_option maxRecDepth 100000 in
theorem contract (H : Type) (enc : TypeId × Value → H) (W : World) (base : Nat) (args : Array Value) (ds gs : List (DataW H)) (before : List MemPlace)
    (hval : ∀ (j : Nat) t v, Tryd.f6.params[j]? = some t → args[j]? = some v → Value.okWide Tryd.prog W .any base t v)
    (hW : DataW.Whole enc Tryd.prog Tryd.f6.params.toList Rows.progGoesSpec.vars false W args.toList ds gs before) (hL : laidMetH Tryd.prog Rows.progGoesRow.laid W) :
    Calls Tryd.prog 6 args W fun e W' => ∃ v, e = .returned v ∧ Rows.progGoesSpec.post enc Tryd.prog Tryd.f6 false true false false W args v W' := by
  have hW' := hW
  obtain ⟨p, q, hA0, hV, rfl, hfz, hnd⟩ := hW
  have hA : DataW.TrodAll enc Tryd.prog W 0 (fun _ => true) true Tryd.f6.params.toList args.toList ds p := hA0
  rw [Tryd.params6] at hA hval
  obtain ⟨v0, vs0, d0, ds0, p0, q0, hargs, rfl, rfl, h0, r0⟩ := trodAll_cons hA
  obtain ⟨v1, vs1, d1, ds1, p1, q1, rfl, rfl, rfl, h1, r1⟩ := trodAll_cons r0
  obtain ⟨rfl, rfl, rfl⟩ := trodAll_nil r1
  obtain rfl : args = #[v0, v1] := by cases args; simp_all
  obtain ⟨rfl, rfl⟩ := trodVars_none hV
  clear hA0
  obtain ⟨a, hs⟩ := sent_of_laid hL (by kernel_rfl) laid_is
  obtain ⟨A, c, l, rfl, hrd, hmax⟩ := open_ins_rd (hval 0 41 v0 rfl rfl) h0
  obtain ⟨y, rfl, rfl, rfl, _⟩ := open_int Tryd.underlying3 (hval 1 3 v1 rfl rfl) h1
  have walk : Calls Tryd.prog 6 #[.slice A l.length c, .int .i64 y] W fun e W' => e = .returned (.bool true) ∧ Below W.heap.size W W' := by
    by_cases hn : l.length ≤ 120
    · exact goes_walk a _ W hs (Nat.le_refl _) A c l hrd hn y
    · exact goes_big a _ W hs (Nat.le_refl _) A l.length c (by omega) hmax y
  refine walk.mono fun e W' ⟨he, hb⟩ => ?_
  subst he
  exact ⟨_, rfl, law_post laid_out rfl rfl Tryd.underlying4 rfl rfl rfl (by rw [Tryd.params6]; intro t ht; simp at ht; rcases ht with rfl | rfl <;> exact ⟨by kernel_rfl, of_decide_eq_true (by kernel_rfl)⟩) hW' hb⟩
set_option maxRecDepth 100000 in
theorem lifted (os : Os) (started : os.Started) (H : Type) (enc : TypeId × Value → H) (F : Stop.Interp) :
    ReturnsInHanded {} Tryd.checked os 6 .any ((OpenSpec.ofChange Rows.progGoesSpec).preRow enc Tryd.prog Tryd.f6 Rows.progGoesRow.domain false Rows.progGoesRow.laid) (((OpenSpec.ofChange Rows.progGoesSpec).at F).post enc Tryd.prog Tryd.f6 false true false false) := by
  obtain ⟨places, hx⟩ := reads os enc
  refine returnsInHanded_of_row (C := Tryd.checked) (s := OpenSpec.ofChange Rows.progGoesSpec) own_knob started (by kernel_rfl) Tryd.func6
    (witness_row_atRef (enc := enc) (C := Tryd.checked) false (World.laidAll Tryd.prog os Rows.progGoesRow.laid) #[Value.slice none 0 0, Value.int .i64 0] (World.laidAll_os _ _ _) (by kernel_rfl) (by kernel_rfl) (by kernel_rfl)
      (OpenSpec.preRow_of_cond 8 hx (by kernel_rfl) (fun k hk => by cases hk) (by kernel_rfl) (door_met os))) ?_
  intro W base args ds gs before hval hW _ _ _ hL _ _
  exact contract H enc W base args ds gs before hval hW hL
theorem said : Rows.ProgGoesSaid :=
  OpenClaim.holds_of_cond 6 Tryd.f6 rfl rfl rfl rfl rfl rfl rfl ⟨rfl, rfl, rfl, rfl, rfl⟩ rfl rfl rfl rfl rfl (by kernel_rfl) Tryd.func6 (by kernel_rfl)
    (of_decide_eq_true (by kernel_rfl)) (by unfold Func.isWrapper; first | (rw [if_pos (by decide +kernel)]; kernel_rfl) | (rw [if_neg (by decide +kernel)]; exact ⟨rfl, rfl⟩))
    (fun os started H enc _ F => by rw [OpenClaim.pre_eq_preRow]; exact lifted os started H enc F)
theorem plain (f : FuncId) (fn : Func) (hf : Tryd.pinned.checked.prog.funcNamed "overdrive/overdrivelaw3.ProgGoes" = some f) (hfn : Tryd.pinned.checked.prog.funcs[f]? = some fn) :
    true = Tryd.pinned.checked.prog.looks [] ∧ ∀ (j : Nat) t, fn.params[j]? = some t → Tryd.pinned.checked.prog.wantsStandIn t = false := by
  obtain rfl : f = 6 := Option.some.inj ((show Tryd.prog.funcNamed "overdrive/overdrivelaw3.ProgGoes" = some 6 by kernel_rfl).symm.trans hf) |>.symm
  obtain rfl : fn = Tryd.f6 := (Option.some.inj (Tryd.func6.symm.trans hfn)).symm
  refine ⟨by kernel_rfl, fun j t ht => ?_⟩
  rw [Tryd.params6] at ht
  have hm : t = 41 ∨ t = 3 := by simpa [or_comm, or_left_comm, or_assoc] using Array.mem_of_getElem? ht
  rcases hm with rfl | rfl
  · exact (show Tryd.prog.wantsStandIn 41 = false by kernel_rfl)
  · exact (show Tryd.prog.wantsStandIn 3 = false by kernel_rfl)
/-- THE CARD. -/
theorem card : Rows.ProgGoesCardSaid :=
  Claim7.holds_tied_plain_at .later [] _ _ _ _ said (fun _ h => by cases h) (by kernel_rfl) (fun _ h => by cases h) progGoes_row_tie rfl ⟨rfl, rfl⟩ (by kernel_rfl) rfl plain (by kernel_rfl)
end Go.Proofs.YtcmlfaikdegbfaaDoor.progGoes
