/-
  Contracts of prog.at, prog.method, prog.field, of overdriveref.There and of overdrivesee.Same at whatever fault.
-/
import Derived.Test.YtcmlfaikdegbfaaGreatDoorPgMay
namespace Go.Proofs.YtcmlfaikdegbfaaGreatDoor
open Go.RowKit Go.Maps

def atB (s : ByteArray) (i : Int) : ByteArray := if inB i s.size = true then s.extract i.toNat (i.toNat + 1) else ⟨#[]⟩
def methodF (p : Prg) (m : Int) : Mth := if inB m p.methods.length = true then p.methods.getD m.toNat default else default
def fieldF (p : Prg) (c i : Int) : ByteArray := if inB c p.classes.length = true then atB (p.classes.getD c.toNat ⟨#[]⟩) i else ⟨#[]⟩

theorem ret_str {a b : ByteArray} (h : a = b) : Ending.returned (.string a) = .returned (.string b) := by rw [h]
theorem at_str (s : ByteArray) (i : Int) (w : World) (hs : s.size ≤ 9223372036854775807) :
    Calls Tryz.prog 35 #[.string s, .int .i64 i] w fun e w' => e = .returned (.string (atB s i)) ∧ w = w' := by
  have hat := Lib.hid (show atB s i = if inB i s.size = true then s.extract i.toNat (i.toNat + 1) else ⟨#[]⟩ from rfl)
  cases hi : inB i s.size with
  | false =>
    rw [hi] at hat
    go_enter Tryz.func35, Tryz.ntmps35
    go_wp2_with (go_at_call 33; refine (in_any _ _ _).mono ?_; rintro e w' ⟨rfl, rfl⟩)
    go_ret
    exact ⟨ret_str (by rw [hat.out]; rfl), rfl⟩
  | true =>
    rw [hi] at hat
    have hx := in_true hi
    obtain ⟨k, rfl⟩ : ∃ k : Nat, i = k := ⟨i.toNat, by omega⟩
    have hks : k < s.size := by omega
    have k0 : (0 : Int) ≤ k := by omega
    go_enter Tryz.func35, Tryz.ntmps35
    go_wp2_with (go_at_call 33; refine (in_any _ _ _).mono ?_; rintro e w' ⟨rfl, rfl⟩)
    go_ret
    exact ⟨ret_str (by rw [hat.out]; rfl), rfl⟩

def MethodPost (w : World) (m : Mth) (e : Ending) (w' : World) : Prop := ∃ A c, e = .returned (mv A c m) ∧ Below w.heap.size w w'
set_option maxHeartbeats 1000000 in
theorem method_any (Ac Am : Option Addr) (cc cm : Nat) (p : Prg) (m : Int) (w : World) (hr : RdMs w w.heap.size Am p.methods) (_ : p.methods.length ≤ 9223372036854775807) :
    Calls Tryz.prog 34 #[pv Ac cc Am cm p, .int .i64 m] w (MethodPost w (methodF p m)) := by
  have hmf := Lib.hid (show methodF p m = if inB m p.methods.length = true then p.methods.getD m.toNat default else default from rfl)
  cases hi : inB m p.methods.length with
  | false =>
    rw [hi] at hmf
    rw [hmf.out]
    go_enter Tryz.func34, Tryz.ntmps34
    go_wp2_with (go_at_call 33; refine (in_any _ _ _).mono ?_; rintro e w' ⟨rfl, rfl⟩)
    exact bodyPost_ret (v := mv none 0 default) (by simp [results, Tryz.results34, go_sem, default]) rfl ⟨_, _, rfl, ((Below.refl _ _).alloc (Nat.le_refl _) _).alloc (by simp) _⟩
  | true =>
    rw [hi] at hmf
    rw [hmf.out]
    have hx := in_true hi
    obtain ⟨k, rfl⟩ : ∃ k : Nat, m = k := ⟨m.toNat, by omega⟩
    have hks : k < p.methods.length := by omega
    have k0 : (0 : Int) ≤ k := by omega
    obtain ⟨b, off, Ai, ci, rfl, hbb, m0, m1, m2, m3, _⟩ := mth_at hr hks
    simp only [Int.toNat_natCast, if_true]
    generalize p.methods.getD k default = mm at *
    go_enter Tryz.func34, Tryz.ntmps34
    go_wp2_with (go_at_call 33; refine (in_any _ _ _).mono ?_; rintro e w' ⟨rfl, rfl⟩)
    exact bodyPost_ret (v := mv Ai ci mm) (by simp [results, Tryz.results34, go_sem]) rfl ⟨_, _, rfl, ((Below.refl _ _).alloc (Nat.le_refl _) _).alloc (by simp) _⟩

set_option maxHeartbeats 1000000 in
theorem field_any (Ac Am : Option Addr) (cc cm : Nat) (p : Prg) (m i : Int) (w : World) (hr : Rd w w.heap.size 1 Ac p.classes.length (p.classes.map Value.string)) (hp : POk p) :
    Calls Tryz.prog 36 #[pv Ac cc Am cm p, .int .i64 m, .int .i64 i] w fun e w' => e = .returned (.string (fieldF p m i)) ∧ Below w.heap.size w w' := by
  have hcl := hp.cl
  have hmf := Lib.hid (show fieldF p m i = if inB m p.classes.length = true then atB (p.classes.getD m.toNat ⟨#[]⟩) i else ⟨#[]⟩ from rfl)
  cases hi : inB m p.classes.length with
  | false =>
    rw [hi] at hmf
    go_enter Tryz.func36, Tryz.ntmps36
    go_wp2_with (go_at_call 33; refine (in_any _ _ _).mono ?_; rintro e w' ⟨rfl, rfl⟩)
    go_ret
    exact ⟨ret_str (by rw [hmf.out]; rfl), (Below.refl _ _).alloc (Nat.le_refl _) _⟩
  | true =>
    rw [hi] at hmf
    have hx := in_true hi
    obtain ⟨k, rfl⟩ : ∃ k : Nat, m = k := ⟨m.toNat, by omega⟩
    have hks : k < p.classes.length := by omega
    have k0 : (0 : Int) ≤ k := by omega
    obtain ⟨b, off, rfl, hbb, c1⟩ := str_at hr hks
    have hfs := hp.fs k hks
    have hmf2 := hmf.out
    simp only [Int.toNat_natCast, if_true] at hmf2
    have Hmf := Lib.hid hmf2
    clear hmf hmf2
    generalize p.classes.getD k ⟨#[]⟩ = s at *
    go_enter Tryz.func36, Tryz.ntmps36
    go_wp2_with (first | (go_at_call 33; refine (in_any _ _ _).mono ?_; rintro e w' ⟨rfl, rfl⟩) | (go_at_call 35; refine (at_str s i _ hfs).mono ?_; rintro e w' ⟨rfl, rfl⟩))
    go_ret
    exact ⟨ret_str (by rw [Hmf.out]), (Below.refl _ _).alloc (Nat.le_refl _) _⟩

def TherePost (w : World) (c m pc : Int) (e : Ending) (w' : World) : Prop := ∃ g, e = .returned (.agg #[.int .i64 c, .slice (some ⟨g, 0, none⟩) 2 2]) ∧ Blk w' g 3 #[.int .i64 m, .int .i64 pc] ∧ Below w.heap.size w w'
theorem there_any (c m pc : Int) (w : World) : Calls Tryz.prog 26 #[.int .i64 c, .int .i64 m, .int .i64 pc] w (TherePost w c m pc) := by
  go_enter Tryz.func26, Tryz.ntmps26
  go_wp2
  exact bodyPost_ret (v := .agg #[.int .i64 c, .slice (some ⟨w.heap.size + 1, 0, none⟩) 2 2]) (by simp [results, Tryz.results26, go_sem]) rfl ⟨_, rfl, Blk.newAt (by simp) _ _, ((Below.refl _ _).alloc (Nat.le_refl _) _).alloc (by simp) _⟩

set_option maxHeartbeats 400000 in
theorem sameE (a : Nat → Addr) (B : Nat) (w : World) (h : Sent w B all14 a) (hB : B ≤ w.heap.size) {v : Value} {f : Flt} (hv : ErrV a w v f) (c2 : Int) (A2 : Option Addr) (n2 p2 : Nat) (l2 : List Int) (hr2 : Rd w w.heap.size 1 A2 n2 (ints l2)) :
    Calls Tryz.prog 25 #[v, .agg #[.int .i64 c2, .slice A2 n2 p2]] w fun e w' => e = .returned (.bool (decide (codeOf f.1 = c2 ∧ f.2 = l2))) ∧ Below w.heap.size w w' := by
  have hf := fun W (hW : Below w.heap.size w W) => fault_errv a B W (h.below hW hB) (Nat.le_trans hB hW.size) (hv.below hW)
  have Hf := Lib.hid hf
  clear hf hv
  go_enter Tryz.func25, Tryz.ntmps25
  go_wp2_with fail
  refine (Hf.out _ ((Below.refl w.heap.size w).alloc (Nat.le_refl _) _)).mono ?_
  rintro e w1 ⟨A1, n1, p1, rfl, hn1, hr1, hb⟩
  have hbb : Below w.heap.size w w1 := ((Below.refl _ _).alloc (Nat.le_refl _) _).trans (hb.mono (by simp))
  have hB1 := (Blk.new w 34 #[.int .i64 c2, .slice A2 n2 p2]).below hb (by simp)
  have q0 := hB1.at0
  have q1 := hB1.at1
  have hz := hB1.lt
  go_wp2_with fail
  refine (sameFault_any (codeOf f.1) c2 A1 A2 n1 n2 p1 p2 f.2 l2 _ (by omega) ((hr1.alloc (Nat.le_refl _) _).more (by simp)) (((hr2.below hbb (Nat.le_refl _)).alloc (by omega) _).more (by simp; omega))).mono ?_
  rintro e w2 ⟨rfl, hb2⟩
  go_wp2
  go_ret
  exact ⟨ret_bool (by simp), (hbb.alloc (by omega) _).trans (hb2.mono (by simp; omega))⟩

set_option maxRecDepth 100000 in
set_option maxHeartbeats 1000000 in
theorem effect_put (Ac Am : Option Addr) (cc cm : Nat) (p : Prg) (x : Ins) (hx : x.op = 26) (m : Int) (w : World) (hr : RdP w w.heap.size Ac Am p) (hp : POk p) (hs : (fieldF p x.a x.b).size ≤ 100) :
    Calls Tryz.prog 17 #[pv Ac cc Am cm p, .int .i64 m, iv x] w fun e w' => e = .returned (.tuple #[.string (strR ++ fieldF p x.a x.b), .string ⟨#[]⟩, .bool true]) ∧ Below w.heap.size w w' := by
  obtain ⟨op, xa, xb, xn⟩ := x
  simp only at hx hs ⊢
  subst hx
  have hmt := method_any Ac Am cc cm p m
  have hft := field_any Ac Am cc cm p xa xb
  have Hmt := Lib.hid hmt
  have Hft := Lib.hid hft
  clear hmt hft
  go_enter Tryz.func17, Tryz.ntmps17
  have hw2 : Below w.heap.size w ((w.alloc (.cells #[.slice Ac p.classes.length cc, .slice Am p.methods.length cm] 25)).alloc (.cells #[.int .i64 26, .int .i64 xa, .int .i64 xb, .int .i64 xn] 44)) := ((Below.refl _ _).alloc (Nat.le_refl _) _).alloc (by simp) _
  have hbp := (Blk.new w 25 #[.slice Ac p.classes.length cc, .slice Am p.methods.length cm]).alloc (.cells #[.int .i64 26, .int .i64 xa, .int .i64 xb, .int .i64 xn] 44)
  have hbx := Blk.newAt (w := w.alloc (.cells #[.slice Ac p.classes.length cc, .slice Am p.methods.length cm] 25)) (g := w.heap.size + 1) (by simp) 44 #[.int .i64 26, .int .i64 xa, .int .i64 xb, .int .i64 xn]
  go_wp2_with fail
  refine (Hmt.out _ ((hr.ms.below hw2 (Nat.le_refl _)).more hw2.size) hp.ms).mono ?_
  rintro e w1 ⟨A1, c1, rfl, hb1⟩
  have hw1 := hw2.trans (hb1.mono hw2.size)
  have hbp1 := hbp.below hb1 hbp.lt
  have hbx1 := hbx.below hb1 hbx.lt
  clear hw2 hbp hbx hb1
  have p0 := hbp1.at0
  have p1 := hbp1.at1
  have i0 := hbx1.at0
  have i1 := hbx1.at1
  have i2 := hbx1.at2
  have i3 := hbx1.at3
  have hz1 := hbx1.lt
  have hz0 : w.heap.size < w1.heap.size := by omega
  have hrc := hr.cl.below hw1 (Nat.le_refl _)
  generalize methodF p m = mm at *
  go_wp2_with fail
  refine (Hft.out _ ((hrc.alloc hw1.size _).more (by simp; omega)) hp).mono ?_
  rintro e w3 ⟨rfl, hb3⟩
  have hk : ¬ 9223372036854775807 < (fieldF p xa xb).size + 1 := by omega
  go_wp2
  go_ret3
  exact ⟨rfl, (hw1.alloc hw1.size _).trans (hb3.mono (by simp; omega))⟩
end Go.Proofs.YtcmlfaikdegbfaaGreatDoor
