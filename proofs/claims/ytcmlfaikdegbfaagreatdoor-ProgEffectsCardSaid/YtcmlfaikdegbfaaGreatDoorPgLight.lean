/-
  overdriveworld.Light: it answers, and leaves what was there.
-/
import Derived.Test.YtcmlfaikdegbfaaGreatDoorPgSmall
namespace Go.Proofs.YtcmlfaikdegbfaaGreatDoor
open Go.RowKit Go.Maps

def SomeB (w : World) (e : Ending) (w' : World) : Prop := ∃ b, e = .returned (.bool b) ∧ Below w.heap.size w w'
set_option maxRecDepth 100000 in
set_option maxHeartbeats 2000000 in
theorem light_any (Ac Am : Option Addr) (cc cm : Nat) (p : Prg) (w : World) (hr : RdP w w.heap.size Ac Am p) (hp : POk p) :
    Calls Tryz.prog 5 #[pv Ac cc Am cm p] w (SomeB w) := by
  have hcl := hp.cl
  have hms := hp.ms
  have hPP : ∀ (b : Bool) (w' : World), Below w.heap.size w w' → SomeB w (.returned (.bool b)) w' := fun b w' h => ⟨b, rfl, h⟩
  have HP := Lib.hid hPP
  clear hPP
  have hP := Blk.new w 25 #[.slice Ac p.classes.length cc, .slice Am p.methods.length cm]
  have hw2 := (Below.refl w.heap.size w).alloc (Nat.le_refl _) (.cells #[.slice Ac p.classes.length cc, .slice Am p.methods.length cm] 25)
  generalize SomeB w = Post at *
  go_enter Tryz.func5, Tryz.ntmps5
  go_upto_region 1 with (fail)
  generalize w.alloc (.cells #[.slice Ac p.classes.length cc, .slice Am p.methods.length cm] 25) = w2 at *
  have p0 := hP.at0
  have p1 := hP.at1
  have hPl := hP.lt
  have hr2 := hr.below hw2 (Nat.le_refl _)
  go_cut [15] from 6 to 15 (fun v wx => ∃ b : Bool, v = .bool b ∧ w2 = wx)
  case first =>
    go_wp2
    all_goals
      go_meet
      exact ⟨_, rfl, rfl⟩
  case rest =>
    obtain ⟨bb, rfl, hwx⟩ := hcut
    subst hwx
    cases bb with
    | true =>
      go_wp2
      exact HP.out false _ hw2
    | false =>
      go_wp2
      go_loop [3] (fun iv => ∃ k : Nat, k ≤ p.classes.length ∧ iv = .int .i64 k) (fun iv => p.classes.length - (intOf iv).toNat)
      case atStart => exact ⟨0, Nat.zero_le _, rfl⟩
      case round =>
        obtain ⟨k, hk, rfl⟩ := hrel
        by_cases hlt : k < p.classes.length
        · obtain ⟨b, off, hA, hbb, c1⟩ := str_at hr2.cl hlt
          have hfs := hp.fs k hlt
          generalize p.classes.getD k ⟨#[]⟩ = s at *
          have k0 : (0 : Int) ≤ k := by omega
          have k1 : (k : Int) < p.classes.length := by omega
          subst hA
          cases hs : decide (30 < (s.size : Int)) with
          | true =>
            go_wp2
            exact HP.out false _ hw2
          | false =>
            go_wp2
            go_round
            case rel => exact ⟨k + 1, by omega, by go_num⟩
            case measure => simp [intOf]; omega
        · have hge : ¬ (k : Int) < p.classes.length := by omega
          clear hlt
          go_wp2
          clear hge p0 p1
          go_loopw [4] (fun iv wr => ∃ i : Nat, i ≤ p.methods.length ∧ iv = .int .i64 i ∧ Below w.heap.size w wr ∧ Blk wr w.heap.size 25 #[.slice Ac p.classes.length cc, .slice Am p.methods.length cm]) (fun iv _ => p.methods.length - (intOf iv).toNat)
          case atStart => exact ⟨0, Nat.zero_le _, rfl, hw2, hP⟩
          case round =>
            clear hw2 hP hPl hr2
            obtain ⟨i, hi, rfl, hb, hP⟩ := hrel
            have hz := hb.size
            have p0 := hP.at0
            have p1 := hP.at1
            have hPl := hP.lt
            by_cases hlt : i < p.methods.length
            · obtain ⟨b, off, Ai, ci, hA, hbb, m0, m1, m2, m3, hcode⟩ := mth_at (hr.ms.below hb (Nat.le_refl _)) hlt
              have hmk := hp.m i hlt
              have hm1 := hmk.pa
              have hm2 := hmk.lo
              have hm3 := hmk.re
              have hm4 := hmk.code
              generalize p.methods.getD i default = m at *
              have k0 : (0 : Int) ≤ i := by omega
              have k1 : (i : Int) < p.methods.length := by omega
              subst hA
              go_upto_region 12 with (fail)
              have hM := Blk.new wr 39 #[.string m.pa, .string m.lo, .string m.re, .slice Ai m.code.length ci]
              have hP1 := hP.alloc (.cells #[.string m.pa, .string m.lo, .string m.re, .slice Ai m.code.length ci] 39)
              have hb1 := hb.alloc hz (.cells #[.string m.pa, .string m.lo, .string m.re, .slice Ai m.code.length ci] 39)
              clear p0 p1 m0 m1 m2 m3 hcode hP hb
              generalize wr.alloc (.cells #[.string m.pa, .string m.lo, .string m.re, .slice Ai m.code.length ci] 39) = w3 at *
              generalize wr.heap.size = gm at *
              have y0 := hM.at0
              have y1 := hM.at1
              have y2 := hM.at2
              have y3 := hM.at3
              have hMl := hM.lt
              go_cut [64] from 43 to 64 (fun v wx => ∃ b : Bool, v = .bool b ∧ w3 = wx)
              case first =>
                go_wp2
                all_goals
                  go_meet
                  exact ⟨_, rfl, rfl⟩
              case rest =>
                obtain ⟨bb, rfl, hwx⟩ := hcut
                subst hwx
                cases bb with
                | true =>
                  go_wp2
                  exact HP.out false _ hb1
                | false =>
                  go_wp2
                  go_roundw
                  case rel => exact ⟨i + 1, by omega, by go_num, hb1, hP1⟩
                  case measure => simp [intOf]; omega
            · have hge : ¬ (i : Int) < p.methods.length := by omega
              clear hlt
              go_wp2
              exact HP.out true _ hb
end Go.Proofs.YtcmlfaikdegbfaaGreatDoor
