/-
  Errors with a method and a place around them (*api.Where): what they are, and how the statements see them.
-/
import Derived.Test.YtcmlfaikdegbfaaGreatDoorSee2
import Derived.Test.YtcmlfaikdegbfaaGreatDoorPg
import Derived.RegionTactic
import Derived.ChangeAlike
namespace Go.Proofs.YtcmlfaikdegbfaaGreatDoor
open Go.RowKit Go.Maps

def whereV (b : Nat) : Value := .iface 67 (.pointer (some ⟨b, 0, none⟩))
/-- The error value v stands for the fault. -/
inductive ErrV (a : Nat → Addr) (w : World) : Value → Flt → Prop
  | nil : ErrV a w .nilIface (0, [])
  | bare (k : Nat) (h : k + 1 ∈ all14) : ErrV a w (sent (a (k + 1))) (k + 1, [])
  | there (k : Nat) (m pc : Int) (b : Nat) (h : k + 1 ∈ all14) (hb : Blk w b 69 #[.int .i64 m, .int .i64 pc, sent (a (k + 1))]) : ErrV a w (whereV b) (k + 1, [m, pc])
theorem ErrV.below {a : Nat → Addr} {w w' : World} {v : Value} {f : Flt} (h : ErrV a w v f) (hb : Below w.heap.size w w') : ErrV a w' v f := by
  cases h with
  | nil => exact .nil
  | bare k h => exact .bare k h
  | there k m pc b h hk => exact .there k m pc b h (hk.below hb hk.lt)

theorem assert_at (b : Nat) (w : World) : (Instr.typeAssert (.iface 67 (.pointer (some ⟨b, 0, none⟩))) 52 105 true).run Tryz.prog w = .ok (.tuple #[.pointer none, .bool false]) w := by kernel_rfl
theorem assert_where (b : Nat) (w : World) : (Instr.typeAssert (.iface 67 (.pointer (some ⟨b, 0, none⟩))) 52 67 true).run Tryz.prog w = .ok (.tuple #[.pointer (some ⟨b, 0, none⟩), .bool true]) w := by kernel_rfl

theorem infoI : (Tryz.prog.info? 3).map (fun i => (i.zero, i.size, i.bytes)) = some (some (.int .i64 0), 1, 8) := by kernel_rfl
theorem append_nil2 (g : Nat) (w : World) : (Builtin.append_ #[32, 32] 32 #[.slice (some ⟨g, 0, none⟩) 2 2, .slice none 0 0]).run Tryz.prog w = .ok (.slice (some ⟨g, 0, none⟩) 2 2) w := by
  obtain ⟨i, hi, _⟩ := info_parts infoI
  simp [Builtin.append_, run_underlying Tryz.underlying32, sizeOf, typeInfo, hi, Builtin.lenOf, Builtin.firstCells, storeCells]

set_option maxRecDepth 100000 in
set_option maxHeartbeats 1000000 in
theorem fault_there (a : Nat → Addr) (B : Nat) (w : World) (h : Sent w B all14 a) (hB : B ≤ w.heap.size) (k : Nat) (hk : k + 1 ∈ all14) (m pc : Int) (b : Nat) (hb : Blk w b 69 #[.int .i64 m, .int .i64 pc, sent (a (k + 1))]) :
    Calls Tryz.prog 54 #[whereV b, .int .i64 9] w fun e w' => ∃ g, e = .returned (.agg #[.int .i64 (100 + (k + 1 : Nat)), .slice (some ⟨g, 0, none⟩) 2 2]) ∧ Blk w' g 3 #[.int .i64 m, .int .i64 pc] ∧ Below w.heap.size w w' := by
  have hf := fun W (hW : Below w.heap.size w W) => fault_sent a B W (h.below hW hB) (Nat.le_trans hB hW.size) hk 8 (by omega)
  have Hf := Lib.hid hf
  clear hf
  have ha1 := assert_at b
  have ha2 := assert_where b
  have q0 := hb.at0
  have q1 := hb.at1
  have q2 := hb.at2
  have hblt := hb.lt
  unfold whereV
  generalize sent (a (k + 1)) = se at *
  go_enter Tryz.func54, Tryz.ntmps54
  go_wp2_with fail
  refine (Hf.out _ ((Below.refl w.heap.size w).alloc (Nat.le_refl _) _)).mono ?_
  rintro e w1 ⟨rfl, hb1⟩
  have hbb1 : Below w.heap.size w w1 := ((Below.refl _ _).alloc (Nat.le_refl _) _).trans (hb1.mono (by simp))
  have hz1 := hbb1.size
  have hR := (Blk.new w 34 #[.int .i64 0, .slice none 0 0]).below hb1 (by simp)
  have hW := hb.below hbb1 hblt
  have r0 := hR.at0
  have r1 := hR.at1
  have g0 := hR.frozen 0
  have g1 := hR.frozen 1
  have p0 := hW.at0
  have p1 := hW.at1
  have p2 := hW.at2
  have hRlt := hR.lt
  have hWlt := hW.lt
  clear q0 q1 q2
  have hap := fun (g : Nat) (W : World) => append_nil2 g W
  go_wp2
  go_region
  have hF := ((((hR.set_ 0 (.int .i64 (100 + ((k : Int) + 1)))).set_ 1 (.slice (some ⟨w1.heap.size + 1, 0, none⟩) 2 2)).alloc (.cells #[.int .i64 (100 + ((k : Int) + 1)), .slice none 0 0] 34)).alloc (.cells #[.int .i64 m, .int .i64 pc] 3)).drew
  have hG : Blk (((((w1.setCell ⟨w.heap.size, 0, none⟩ (.int .i64 (100 + ((k : Int) + 1)))).setCell ⟨w.heap.size, 1, none⟩ (.slice (some ⟨w1.heap.size + 1, 0, none⟩) 2 2)).alloc (.cells #[.int .i64 (100 + ((k : Int) + 1)), .slice none 0 0] 34)).alloc (.cells #[.int .i64 m, .int .i64 pc] 3)).drew) (w1.heap.size + 1) 3 #[.int .i64 m, .int .i64 pc] := (Blk.newAt (by simp) _ _).drew
  have f0 := hF.at0
  have f1 := hF.at1
  go_wp2
  exact bodyPost_ret (v := .agg #[.int .i64 (100 + (k + 1 : Nat)), .slice (some ⟨w1.heap.size + 1, 0, none⟩) 2 2]) (by simp [results, Tryz.results54, go_sem, f0, f1]) rfl ⟨w1.heap.size + 1, rfl, hG, ((((hbb1.setCell (Nat.le_refl _) _).setCell (Nat.le_refl _) _).alloc (by simp; omega) _).alloc (by simp; omega) _).drew⟩

set_option maxHeartbeats 400000 in
theorem fault_errv (a : Nat → Addr) (B : Nat) (w : World) (h : Sent w B all14 a) (hB : B ≤ w.heap.size) {v : Value} {f : Flt} (hv : ErrV a w v f) :
    Calls Tryz.prog 44 #[v] w fun e w' => ∃ A n c, e = .returned (.agg #[.int .i64 (codeOf f.1), .slice A n c]) ∧ n ≤ 2 ∧ Rd w' w'.heap.size 1 A n (ints f.2) ∧ Below w.heap.size w w' := by
  cases hv with
  | nil => exact (faultAll_nil w).mono fun e w' ⟨h1, h2⟩ => ⟨_, _, _, h1, by omega, Rd.nil _ _ _ _, h2⟩
  | bare k hk => exact (faultAll_sent a B w h hB hk).mono fun e w' ⟨h1, h2⟩ => ⟨_, _, _, h1, by omega, Rd.nil _ _ _ _, h2⟩
  | there k m pc b hk hb =>
    have hs := fun W hW hB' hb' => fault_there a B W (h := hW) (hB := hB') k hk m pc b hb'
    have Hs := Lib.hid hs
    clear hs
    have hlt := hb.lt
    unfold whereV at *
    generalize hse : sent (a (k + 1)) = se at *
    go_enter Tryz.func44, Tryz.ntmps44
    go_wp2_with fail
    refine (Hs.out _ (h.below ((Below.refl w.heap.size w).alloc (Nat.le_refl _) _) hB) (by simp; omega) (hb.alloc _)).mono ?_
    rintro e w1 ⟨g, rfl, hg, hb1⟩
    have hbb : Below w.heap.size w w1 := ((Below.refl _ _).alloc (Nat.le_refl _) _).trans (hb1.mono (by simp))
    have hB1 := (Blk.new w 34 #[.int .i64 0, .slice none 0 0]).below hb1 (by simp)
    have q0 := hB1.at0
    have q1 := hB1.at1
    have f0 := hB1.frozen 0
    have f1 := hB1.frozen 1
    have hgl := hg.lt
    have hne : g ≠ w.heap.size := hg.ne_ hB1 (by decide)
    go_wp2
    have hG := (hg.far (p := ⟨w.heap.size, 0, none⟩) hne (.int .i64 (100 + ((k : Int) + 1)))).far (p := ⟨w.heap.size, 1, none⟩) hne (.slice (some ⟨g, 0, none⟩) 2 2)
    exact bodyPost_ret (v := .agg #[.int .i64 (codeOf (k + 1)), .slice (some ⟨g, 0, none⟩) 2 2]) (by simp [results, Tryz.results44, go_sem, q0, q1, codeOf]) rfl ⟨_, _, _, rfl, by omega, Blk.rd (xs := ints [m, pc]) hG rfl (by simpa using hgl), (hbb.setCell (by simp) _).setCell (by simp) _⟩
end Go.Proofs.YtcmlfaikdegbfaaGreatDoor
