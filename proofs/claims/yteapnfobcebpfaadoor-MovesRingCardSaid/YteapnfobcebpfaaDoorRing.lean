/-
  The walk of MovesRing.
-/
import Derived.Test.YteapnfobcebpfaaDoorFirst
import Derived.Test.YteapnfobcebpfaaDoorRingLaw
import Derived.StillTailTactics
import Derived.Deep.OwnRows
import Derived.Deep.DeepCutAuto
namespace Go.Proofs.YteapnfobcebpfaaDoor
open Go.RowKit Go.Maps Mov

theorem among_any (w : World) {B : Nat} {A : Option Addr} {n c : Nat} {l : List Int} (hr : Rd w B 1 A n (ints l)) (hn : n ≤ 9223372036854775807) (x : Int) :
    Calls Tryd.prog 14 #[.slice A n c, .int .i64 x] w fun e w' => e = .returned (.bool (decide (x ∈ l))) ∧ w = w' := by
  have hll : l.length = n := by simpa [ints] using hr.1
  have Hll := Lib.hid hll
  clear hll
  go_enter Tryd.func14, Tryd.ntmps14
  go_wp2
  go_loop [5] (fun i => ∃ k : Nat, k ≤ n ∧ i = .int .i64 k ∧ ∀ j, j < k → l[j]?.getD 0 ≠ x) (fun i => n - (intOf i).toNat)
  case atStart => exact ⟨0, Nat.zero_le _, rfl, fun j hj => by omega⟩
  case round =>
    obtain ⟨k, hk, rfl, hno⟩ := hrel
    have Hno := Lib.hid hno
    clear hno
    by_cases hlt : k < n
    · obtain ⟨b, off, rfl, hbl, c1⟩ := ints_at hr hlt
      have k0 : (0 : Int) ≤ k := by omega
      have k1 : (k : Int) < n := by omega
      go_wp2
      · have e : l[k]?.getD 0 = x := by simpa using (show (l[k]?.getD 0 == x) = true by assumption)
        go_ret
        have hk2 : k < l.length := by rw [Hll.out]; exact hlt
        refine ⟨ret_bool (Eq.symm (decide_eq_true ?_)), rfl⟩
        rw [List.getElem?_eq_getElem hk2] at e
        rw [← e]
        exact List.getElem_mem hk2
      · have e : ¬ l[k]?.getD 0 = x := by simpa using (show (l[k]?.getD 0 == x) = false by assumption)
        go_round
        case rel => exact ⟨k + 1, by omega, by go_num, fun j hj => by
          by_cases h : j = k
          · subst h; exact e
          · exact Hno.out j (by omega)⟩
        case measure => simp [intOf]; omega
    · have e : k = n := by omega
      go_wp2
      go_ret
      refine ⟨ret_bool (Eq.symm (decide_eq_false ?_)), rfl⟩
      intro hx
      obtain ⟨j, hj, he⟩ := List.mem_iff_getElem.1 hx
      have := Hno.out j (by rw [e, ← Hll.out]; exact hj)
      rw [List.getElem?_eq_getElem hj] at this
      exact this he

/-- The cells of a row of Booleans. -/
def bcells (s : List Bool) : List Value := s.map Value.bool
theorem made_false (n : Nat) : madeCells #[Value.bool false] n = ⟨bcells (List.replicate n false)⟩ := by
  apply Array.ext
  · simp [madeCells, bcells]
  · intro i h1 h2
    simp [madeCells, bcells, Nat.mod_one]
theorem infoBool : (Tryd.prog.info? 4).map (fun i => (i.zero, i.size, i.bytes)) = some (some (.bool false), 1, 1) := by kernel_rfl
theorem bcell_at {w : World} {g : Nat} {t : TypeId} {s : List Bool} (h : Blk w g t ⟨bcells s⟩) {k : Nat} (hk : k < s.length) : w.cell? ⟨g, k, none⟩ = some (.bool (s.getD k true)) := by
  rw [h.cell]
  simp [bcells, hk]
theorem bcell_set {w : World} {g : Nat} {t : TypeId} {s : List Bool} (h : Blk w g t ⟨bcells s⟩) (k : Nat) (u : Bool) : Blk (w.setCell ⟨g, k, none⟩ (.bool u)) g t ⟨bcells (s.set k u)⟩ := by
  have := h.set_ k (.bool u)
  have e : (⟨bcells s⟩ : Array Value).setIfInBounds k (.bool u) = ⟨bcells (s.set k u)⟩ := by
    simp [bcells, List.map_set]
  rwa [e] at this
theorem count_set : ∀ (s : List Bool) (k : Nat), s.getD k true = false → (s.set k true).count false + 1 = s.count false
  | [], k, h => by simp at h
  | x :: r, 0, h => by
    simp at h
    subst h
    simp
  | x :: r, k + 1, h => by
    have := count_set r k (by simpa using h)
    cases x <;> simp <;> omega
theorem mark_stop {n b f k : Nat} {s : List Bool} (h : s.getD k true = true) : markF n b f s k = s := by
  cases f with
  | zero => rfl
  | succ f => unfold markF; rw [if_pos h]
theorem mark_go {n b f k : Nat} {s : List Bool} (h : s.getD k true = false) : markF n b (f + 1) s k = markF n b f (s.set k true) ((k + b) % n) := by
  conv => lhs; unfold markF
  rw [if_neg (by rw [h]; simp)]
theorem rings_succ (n b i : Nat) (s : List Bool × Nat) : ringsG n b (i + 1) s = (markF n b (n + 1) (ringsG n b i s).1 i, if (ringsG n b i s).1.getD i true || b == 0 then (ringsG n b i s).2 else (ringsG n b i s).2 + 1) := rfl

theorem rings_le (n b i : Nat) (s : List Bool) : (ringsG n b i (s, 0)).2 ≤ i := by
  induction i with
  | zero => exact Nat.le_refl _
  | succ i ih =>
    rw [rings_succ]
    by_cases h : ((ringsG n b i (s, 0)).1.getD i true || b == 0) = true
    · simp only [h, if_true]; omega
    · simp only [h]; simp; omega

set_option maxRecDepth 100000 in
set_option maxHeartbeats 1000000 in
theorem ring_walk (a : Nat → Addr) (B : Nat) (w : World) (h : Sent w B [1, 3, 5] a) (hB : B ≤ w.heap.size) (x y z : Int) :
    Calls Tryd.prog 4 #[.int .i64 x, .int .i64 y, .int .i64 z] w fun e w' => e = .returned (.bool true) ∧ Below w.heap.size w w' := by
  have hx1 := Int.tmod_lt_of_pos x (show (0 : Int) < 30 by omega)
  have hx2 := Int.lt_tmod_of_pos x (show (0 : Int) < 30 by omega)
  obtain ⟨n, hn⟩ : ∃ n : Nat, x.tmod 30 % 30 + 1 = (n : Int) := ⟨(x.tmod 30 % 30 + 1).toNat, by omega⟩
  have hn0 : 0 < n := by omega
  have hn30 : n ≤ 30 := by omega
  have hy1 := Int.tmod_lt_of_pos y (show (0 : Int) < n by omega)
  have hy2 := Int.lt_tmod_of_pos y (show (0 : Int) < n by omega)
  obtain ⟨b, hb⟩ : ∃ b : Nat, y.tmod n % n = (b : Int) := ⟨(y.tmod n % n).toNat, by rw [Int.toNat_of_nonneg (Int.emod_nonneg _ (by omega))]⟩
  have hbn : b < n := by have := Int.emod_lt_of_pos (y.tmod n) (show (0 : Int) < n by omega); omega
  have hz1 := Int.tmod_lt_of_pos z (show (0 : Int) < 10 by omega)
  have hz2 := Int.lt_tmod_of_pos z (show (0 : Int) < 10 by omega)
  obtain ⟨t, ht⟩ : ∃ t : Nat, z.tmod 10 % 10 = (t : Int) := ⟨(z.tmod 10 % 10).toNat, by omega⟩
  have ht9 : t < 10 := by omega
  have g1 : (0 : Int) < n := by omega
  have g2 : (n : Int) ≤ 30 := by omega
  have hb' : (y.tmod n + n) % n = (b : Int) := by rw [Int.add_emod_right]; exact hb
  have ht' : (z.tmod 10 + 10) % 10 = (t : Int) := by omega
  obtain ⟨hok, hlenO, hcy⟩ := ring_ok hn0 hn30 hbn ht9
  have hll := ringAll_len n b t
  have hord : ∀ (A' : Option Addr) (c' : Nat) (W : World), Below w.heap.size w W → Rd W W.heap.size 2 A' (n + t) (mcells (ringAll n b t)) → Calls Tryd.prog 8 #[.slice A' (n + t) c', .int .i64 (-7)] W fun e w' => ∃ A c, e = .returned (.tuple #[.slice A (orderF (ringAll n b t) (-7)).length c, .nilIface]) ∧ w'.ownsRow W.heap.size 31 2 (.slice A (orderF (ringAll n b t) (-7)).length c) (orderF (ringAll n b t) (-7)).length (mcells (orderF (ringAll n b t) (-7))) ∧ Below W.heap.size W w' := fun A' c' W hW hrd => by
    have := order_yes a B A' c' (ringAll n b t) (-7) W (h.below hW hB) (Nat.le_trans hB hW.size) (by rw [hll]; exact hrd) (ring_wf hn0 hn30 ht9) (wf64_of (by omega)) (by rw [hll]; omega) hok
    rwa [hll] at this
  have hcyc : ∀ (A' : Option Addr) (c' : Nat) (W : World), Below w.heap.size w W → Rd W W.heap.size 2 A' (n + t) (mcells (ringAll n b t)) → Calls Tryd.prog 10 #[.slice A' (n + t) c'] W fun e w' => e = .returned (.int .i64 (ringsC n b)) ∧ Below W.heap.size W w' := fun A' c' W hW hrd => by
    have := cycles_any a B A' c' (ringAll n b t) W (h.below hW hB) (Nat.le_trans hB hW.size) (by rw [hll]; exact hrd) (ring_wf hn0 hn30 ht9) (by rw [hll]; omega)
    rwa [hll, hcy] at this
  have hdoes : ∀ k, k < n + t → atF (haveF (orderF (ringAll n b t) (-7)) []) (toAt (ringAll n b t) k) = frAt (ringAll n b t) k := fun k hk => by
    rw [at_have]
    exact ring_does hn0 hn30 hk
  generalize hO : orderF (ringAll n b t) (-7) = O at *
  have Hord := Lib.hid hord
  have Hcyc := Lib.hid hcyc
  have Hdoes := Lib.hid hdoes
  have Hll := Lib.hid hll
  have HlenO := Lib.hid hlenO
  have Hb' := Lib.hid hb'
  have Ht' := Lib.hid ht'
  clear hord hcyc hdoes hok hcy hll hlenO hO hb' ht'
  have hmk := run_make_row' (P := Tryd.prog) 37 4 (.bool false) 1 Tryd.underlying37 infoBool rfl .i64 .i64 n (by omega) (by omega)
  rw [made_false] at hmk
  go_enter Tryd.func4, Tryd.ntmps4
  go_wp2_with (go_at_call 7; refine (first_any a B _ h hB).mono ?_; rintro e w0 ⟨rfl, hb0⟩)
  rw [Hb'.out, Ht'.out]
  generalize (x.tmod 30 + 30) % 30 = q1
  clear hx1 hx2 hy1 hy2 hz1 hz2 hn hb ht
  have k2 : (0 : Int) ≤ b := by omega
  have k3 : (b : Int) < n := by omega
  have k4 : (0 : Int) ≤ t := by omega
  have k5 : (t : Int) < 10 := by omega
  go_loopw [8, 9] (fun v i wr => ∃ (k : Nat) (A' : Option Addr) (c' : Nat), k ≤ n ∧ i = .int .i64 k ∧ v = .slice A' k c' ∧ wr.ownsRow w.heap.size 31 2 (.slice A' k c') k (mcells (ringL n b k)) ∧ Below w.heap.size w wr) (fun _ i _ => n - (intOf i).toNat)
  case atStart => exact ⟨0, none, 0, Nat.zero_le _, rfl, rfl, World.ownsRow_nil _ _ _ _, hb0⟩
  case round =>
    obtain ⟨k, A', c', hk, rfl, rfl, hown, hb⟩ := hrel
    have hz := hb.size
    by_cases hlt : k < n
    · have k0 : (0 : Int) ≤ k := by omega
      have k1 : (k : Int) < n := by omega
      go_wp2_with (at_builtin
                   refine wpList_append_row rfl (.tmp 42) (.tmp 50) 22 rfl w.heap.size 31 _ 2 16 Tryd.underlying22 infoM rfl (by omega) A' c' k (mcells (ringL n b k)) rfl (hown.alloc _) wr.heap.size 1 1 31 [.int .i64 (k : Int), .int .i64 (((k : Int) + b) % n)] rfl (Blk.new _ _ _) rfl (by intro u hu; simp at hu; rcases hu with rfl | rfl <;> rfl) (by unfold maxLen; omega) (by omega) (by simp; omega) ?_
                   intro A1 c1 w1 hown1 hg1 hat1)
      go_roundw
      case rel => exact ⟨k + 1, A1, c1, by omega, by go_num, rfl, by rw [ring_succ, mcells_snoc]; simpa using hown1, (hb.alloc hz _).grown hg1 (by simp; omega) (fun j hj => (hown.lt j hj).1)⟩
      case measure => simp [intOf]; omega
    · have e : k = n := by omega
      subst e
      clear hk hlt
      go_wp2
      go_loopw [8, 10] (fun v i wr => ∃ (m : Nat) (A' : Option Addr) (c' : Nat), m ≤ t ∧ i = .int .i64 m ∧ v = .slice A' (k + m) c' ∧ wr.ownsRow w.heap.size 31 2 (.slice A' (k + m) c') (k + m) (mcells (ringL k b k ++ tailL k m)) ∧ Below w.heap.size w wr) (fun _ i _ => t - (intOf i).toNat)
      case atStart => exact ⟨0, A', c', Nat.zero_le _, rfl, rfl, by simpa [tailL] using hown, hb⟩
      case round =>
        obtain ⟨m, A2, c2, hm, rfl, rfl, hown, hb⟩ := hrel
        have hz := hb.size
        by_cases hlt : m < t
        · have k0 : (0 : Int) ≤ m := by omega
          have k1 : (m : Int) < t := by omega
          go_wp2_with (at_builtin
                       refine wpList_append_row rfl (.tmp 57) (.tmp 64) 22 rfl w.heap.size 31 _ 2 16 Tryd.underlying22 infoM rfl (by omega) A2 c2 (k + m) (mcells (ringL k b k ++ tailL k m)) rfl (hown.alloc _) wr.heap.size 1 1 31 [.int .i64 (100 + (m : Int)), .int .i64 ((m : Int) % k)] rfl (Blk.new _ _ _) rfl (by intro u hu; simp at hu; rcases hu with rfl | rfl <;> rfl) (by unfold maxLen; omega) (by omega) (by simp; omega) ?_
                       intro A1 c1 w1 hown1 hg1 hat1)
          go_roundw
          case rel => exact ⟨m + 1, A1, c1, by omega, by go_num, rfl, by rw [tail_succ, ← List.append_assoc, mcells_snoc]; simpa [Nat.add_assoc] using hown1, (hb.alloc hz _).grown hg1 (by simp; omega) (fun j hj => (hown.lt j hj).1)⟩
          case measure => simp [intOf]; omega
        · have e : m = t := by omega
          subst e
          obtain ⟨A1, c1, hA1, hrd⟩ := Rd.of_own hown
          injection hA1 with hA1 _ hc1
          subst hA1 hc1
          go_wp2_with fail
          refine (Hord.out _ _ _ hb hrd).mono ?_
          rintro e w2 ⟨A5, c5, rfl, hownO, hb2⟩
          obtain ⟨A3, c3, hA3, hrO⟩ := Rd.of_own hownO
          injection hA3 with hA3 _ hc3
          subst hA3 hc3
          have hbw : Below w.heap.size w w2 := hb.trans (hb2.mono hb.size)
          have hrL := ((hrd.below hb2 (Nat.le_refl _))).more hb2.size
          clear hrd hownO hown hb2 hb hz hm hlt
          go_wp2
          have hg0 := Blk.new w2 4 ⟨bcells (List.replicate k false)⟩
          have hbg : Below w2.heap.size w2 (w2.alloc (.cells ⟨bcells (List.replicate k false)⟩ 4)) := (Below.refl _ _).alloc (Nat.le_refl _) _
          generalize hw3 : w2.alloc (.cells ⟨bcells (List.replicate k false)⟩ 4) = w3 at *
          clear hw3
          generalize hgg : w2.heap.size = g at *
          have hwg : w.heap.size ≤ g := by rw [← hgg]; exact hbw.size
          have hgw : g < w3.heap.size := hg0.lt
          clear hgg
          go_loopw [13, 15] (fun rv iv wr => ∃ (i : Nat) (s : List Bool) (r : Nat), i ≤ k ∧ iv = .int .i64 i ∧ rv = .int .i64 r ∧ Hid (ringsG k b i (List.replicate k false, 0) = (s, r)) ∧ Blk wr g 4 ⟨bcells s⟩ ∧ Below g w3 wr) (fun _ i _ => k - (intOf i).toNat)
          case atStart => exact ⟨0, _, 0, Nat.zero_le _, rfl, rfl, Lib.hid rfl, hg0, Below.refl _ _⟩
          case round =>
            obtain ⟨i, s, r, hi, rfl, rfl, Hq, hblk, hb⟩ := hrel
            have hsl : s.length = k := by
              have := rings_len k b i (List.replicate k false, 0)
              rw [Hq.out] at this
              simpa using this
            have hle : r ≤ i := by
              have := rings_le k b i (List.replicate k false)
              rwa [Hq.out] at this
            have hstep := rings_succ k b i (List.replicate k false, 0)
            rw [Hq.out] at hstep
            simp only at hstep
            obtain ⟨s2, hs2⟩ : ∃ s2, s2 = markF k b (k + 1) s i := ⟨_, rfl⟩
            obtain ⟨r2, hr2⟩ : ∃ r2, r2 = if s.getD i true || b == 0 then r else r + 1 := ⟨_, rfl⟩
            rw [← hs2, ← hr2] at hstep
            have Hst := Lib.hid hstep
            have Hs2 := Lib.hid hs2
            have Hr2 := Lib.hid hr2
            have Hsl := Lib.hid hsl
            clear hs2 hr2 hsl hstep
            by_cases hlt : i < k
            · have k0 : (0 : Int) ≤ i := by omega
              have k1 : (i : Int) < k := by omega
              have hc := bcell_at hblk (show i < s.length by rw [Hsl.out]; exact hlt)
              obtain ⟨cc, hcc⟩ : ∃ cc : Bool, cc = (!s.getD i true && !(b == 0)) := ⟨_, rfl⟩
              have hrr : r2 = if cc then r + 1 else r := by
                rw [Hr2.out, hcc]
                cases s.getD i true <;> cases (b == 0) <;> rfl
              have Hrr := Lib.hid hrr
              have Hcc := Lib.hid hcc
              clear hrr hcc
              go_upto_region 20 with (fail)
              go_cut [86] from 73 to 86 (fun v wx => v = .bool cc ∧ wx = wr)
              case first =>
                cases e1 : s.getD i true with
                | true =>
                  have hv := Lib.hid (show cc = false by rw [Hcc.out, e1]; rfl)
                  rw [e1] at hc
                  clear e1
                  go_wp2
                  go_meet
                  exact ⟨by rw [hv.out], rfl⟩
                | false =>
                  rw [e1] at hc
                  by_cases e2 : b = 0
                  · have hv := Lib.hid (show cc = false by rw [Hcc.out, e1, e2]; rfl)
                    clear e1
                    subst e2
                    go_wp2
                    go_meet
                    exact ⟨by rw [hv.out], rfl⟩
                  · have hv := Lib.hid (show cc = true by rw [Hcc.out, e1]; simp [e2])
                    clear e1
                    have e3 : (0 : Int) < b := by omega
                    clear e2
                    go_wp2
                    go_meet
                    exact ⟨by rw [hv.out]; simp; omega, rfl⟩
              case rest =>
                obtain ⟨rfl, hwx⟩ := hcut
                subst hwx
                go_upto_if 86 with (fail)
                go_cut [13] from 73 to 88 (fun v wx => v = .int .i64 r2 ∧ wx = wc)
                case first =>
                  cases cc with
                  | true =>
                    have hv := Lib.hid (show r2 = r + 1 from Hrr.out)
                    go_wp2
                    go_meet
                    exact ⟨by rw [hv.out]; go_num, rfl⟩
                  | false =>
                    have hv := Lib.hid (show r2 = r from Hrr.out)
                    go_wp2
                    go_meet
                    exact ⟨by rw [hv.out], rfl⟩
                case rest =>
                  obtain ⟨rfl, hwx⟩ := hcut
                  subst hwx
                  go_wp2
                  have hmk0 : markF k b (k + 1) s i = s2 := Hs2.out.symm
                  have hcnt : s.count false < k + 1 := by have := List.count_le_length (a := false) (l := s); rw [Hsl.out] at this; omega
                  go_loopg [16] (k + 1) (fun f kv w8 => ∃ (s' : List Bool) (j : Nat), kv = .int .i64 j ∧ j < k ∧ s'.length = k ∧ s'.count false < f ∧ Blk w8 g 4 ⟨bcells s'⟩ ∧ Below g w3 w8 ∧ markF k b f s' j = s2)
                  case atStart => exact ⟨s, i, rfl, hlt, Hsl.out, hcnt, hblk, hb, hmk0⟩
                  case round =>
                    obtain ⟨s', j, rfl, hj, hsl', hcnt', hblk', hb8, hmk'⟩ := hrel
                    have j0 : (0 : Int) ≤ j := by omega
                    have j1 : (j : Int) < k := by omega
                    have hc8 := bcell_at hblk' (show j < s'.length by rw [hsl']; exact hj)
                    have hf8 := hblk'.frozen j
                    have hlt8 := hblk'.lt
                    have Hsl' := Lib.hid hsl'
                    have Hmk' := Lib.hid hmk'
                    clear hsl' hmk' hmk0
                    cases e1 : s'.getD j true with
                    | true =>
                      rw [e1] at hc8
                      have He1 := Lib.hid e1
                      clear e1
                      go_wp2
                      go_roundw
                      case rel => exact ⟨i + 1, s2, r2, by omega, by go_num, rfl, Hst, by rw [← Hmk'.out, mark_stop He1.out]; exact hblk', hb8⟩
                      case measure => simp [intOf]; omega
                    | false =>
                      rw [e1] at hc8
                      have He1 := Lib.hid e1
                      clear e1
                      go_wp2
                      have hcs := count_set s' j He1.out
                      obtain ⟨f, rfl⟩ : ∃ f, gk = f + 1 := ⟨gk - 1, by omega⟩
                      have hms := mark_go (n := k) (b := b) (f := f) He1.out
                      rw [Hmk'.out] at hms
                      go_roundg f
                      case rel => exact ⟨s'.set j true, (j + b) % k, by simp, Nat.mod_lt _ hn0, by rw [List.length_set]; exact Hsl'.out, by omega, bcell_set hblk' j true, hb8.setCell (Nat.le_refl _) _, hms.symm⟩
                      case measure => omega
            · have e : i = k := by omega
              subst e
              have hrr : ringsC i b = r := by unfold ringsC; rw [Hq.out]
              have Hrr := Lib.hid hrr
              rw [hrr] at Hcyc HlenO
              clear hrr hlt hi Hq hblk hmk
              have hrL3 := (hrL.below hbg (Nat.le_refl _)).below hb (Nat.le_refl _)
              have hrO3 := (hrO.below hbg (Nat.le_refl _)).below hb (Nat.le_refl _)
              have hbw3 : Below w.heap.size w wr := (hbw.trans (hbg.mono hwg)).trans (hb.mono hwg)
              have hz3 := hb.size
              clear hrL hrO hbg hbw hb hg0
              go_wp2
              obtain ⟨w5, hw5⟩ : ∃ w5 : World, w5 = wr := ⟨_, rfl⟩
              rw [← hw5] at hrL3 hrO3 hbw3 hz3 ⊢
              clear hw5
              have hO2 : O.length ≤ 1000 := by
                have := HlenO.out
                have h2 : r ≤ i := hle
                split at this <;> omega
              go_loopw [17, 18] (fun v iv wr => ∃ (j : Nat) (A4 : Option Addr) (n4 c4 : Nat) (gs : List Nat), j ≤ O.length ∧ iv = .int .i64 j ∧ v = .slice A4 n4 c4 ∧ HR wr w5.heap.size A4 n4 c4 gs (haveF (O.take j) []) ∧ Below w5.heap.size w5 wr) (fun _ iv _ => O.length - (intOf iv).toNat)
              case atStart => exact ⟨0, none, 0, 0, [], Nat.zero_le _, rfl, rfl, HR.nil _ _, Below.refl _ _⟩
              case round =>
                obtain ⟨j, A4, n4, c4, gs, hj, rfl, rfl, hR, hb4⟩ := hrel
                have hz4 := hb4.size
                have hn4 : n4 ≤ 100000 := by
                  have h1 := len_haveF (O.take j) []
                  have h2 := hR.lh
                  simp at h1
                  omega
                by_cases hlt2 : j < O.length
                · have hrO4 := (hrO3.more (Nat.le_trans (Nat.le_of_lt hgw) hz3)).below hb4 (Nat.le_refl _)
                  obtain ⟨bb, off, rfl, hbl, q1, q2⟩ := moves_at hrO4 hlt2
                  have k0 : (0 : Int) ≤ j := by omega
                  have k1 : (j : Int) < O.length := by omega
                  clear hrO4
                  go_wp2
                  refine wp_region_still_tail 13 (by kernel_rfl) (by kernel_rfl) ?_
                  simp only [List.take_succ_cons, List.take_zero, List.drop_succ_cons, List.drop_zero]
                  repeat still_step
                  still_call (at_same wr.drew hR.drew hn4 _)
                  repeat still_step
                  refine wpStill_nil ?_
                  change wpList _ _ _ _ _ wr.drew
                  go_wp2_with fail
                  refine (put_any _ hR.drew hz4 hn4 _ _).mono ?_
                  rintro e w6 ⟨A6, n6, c6, gs6, rfl, hR6, hb6⟩
                  go_wp2
                  go_roundw
                  case rel => exact ⟨j + 1, A6, n6, c6, gs6, by omega, by go_num, rfl, by rw [haveF_next hlt2]; exact hR6, hb4.drew.trans hb6⟩
                  case measure => simp [intOf]; omega
                · have ej : j = O.length := by omega
                  have hR6 : HR wr w5.heap.size A4 n4 c4 gs (haveF O []) := by
                    have := hR
                    rw [ej, List.take_length] at this
                    exact this
                  clear hR hj
                  obtain ⟨w7, hw7⟩ : ∃ w7 : World, w7 = wr := ⟨_, rfl⟩
                  clear ej
                  go_wp2
                  rw [← hw7] at hR6 hb4 ⊢
                  clear hw7 hz4
                  go_loopw [19] (fun iv w8 => ∃ p : Nat, p ≤ i + m ∧ iv = .int .i64 p ∧ Below w7.heap.size w7 w8) (fun iv _ => i + m - (intOf iv).toNat)
                  case atStart => exact ⟨0, Nat.zero_le _, rfl, Below.refl _ _⟩
                  case round =>
                    obtain ⟨p, hp, rfl, hb8⟩ := hrel
                    have hR8 := hR6.kept hb8
                    have hrL8 := ((hrL3.more (Nat.le_trans (Nat.le_of_lt hgw) hz3)).below hb4 (Nat.le_refl _)).below hb8 hb4.size
                    by_cases hlt3 : p < i + m
                    · have hL8 : Rd wr w5.heap.size 2 A2 (ringAll i b m).length (mcells (ringAll i b m)) := by rw [Hll.out]; exact hrL8
                      have HmL := Lib.hid (show p < (ringAll i b m).length by rw [Hll.out]; exact hlt3)
                      obtain ⟨bb, off, rfl, hbl, q1, q2⟩ := moves_at hL8 HmL.out
                      clear hL8 hrL8
                      have k0 : (0 : Int) ≤ p := by omega
                      have k1 : (p : Int) < i + m := by omega
                      have hd := Hdoes.out p hlt3
                      go_wp2
                      go_quiet ((go_at_call 13; exact Calls.quiet_of_same (at_same _ hR8.drewN hn4 _)))
                      go_wp2
                      go_roundw
                      case rel => exact ⟨p + 1, by omega, by go_num, below_drewN hb8 _⟩
                      case measure => simp [intOf]; omega
                    · have hbw8 : Below w.heap.size w wr := hbw3.trans ((hb4.trans (hb8.mono hb4.size)).mono hbw3.size)
                      have ep : ¬ (p : Int) < i + m := by omega
                      go_wp2_with fail
                      refine (Hcyc.out _ _ _ hbw8 (hrL8.more (by have := hb4.size; have := hb8.size; omega))).mono ?_
                      rintro e w9 ⟨rfl, hb9⟩
                      have hbw9 := hbw8.trans (hb9.mono hbw8.size)
                      have hz9 := hbw9.size
                      clear hrL8
                      have hrA := Blk.rd (B := w9.heap.size + 1) (size := 1) (n := 2) (Blk.new w9 3 ⟨ints [(i : Int), 0]⟩) rfl (Nat.lt_succ_self _)
                      by_cases e0 : b = 0
                      · have s1 : (O.length : Int) - m - r = 0 := by
                          have := HlenO.out
                          rw [if_pos e0] at this
                          omega
                        clear e0
                        go_wp2_with fail
                        refine (among_any _ hrA (by omega) _).mono ?_
                        rintro e w10 ⟨rfl, rfl⟩
                        go_wp2
                        go_ret
                        exact ⟨ret_bool (by simp), hbw9.alloc hz9 _⟩
                      · have s1 : (O.length : Int) - m - r = i := by
                          have := HlenO.out
                          rw [if_neg e0] at this
                          omega
                        clear e0
                        go_wp2_with fail
                        refine (among_any _ hrA (by omega) _).mono ?_
                        rintro e w10 ⟨rfl, rfl⟩
                        go_wp2
                        go_ret
                        exact ⟨ret_bool (by simp), hbw9.alloc hz9 _⟩
end Go.Proofs.YteapnfobcebpfaaDoor
