/-
  The inner function of moves.Order: a place that is read no more is written, and so on.
-/
import Derived.Test.YteapnfobcebpfaaDoorMay
namespace Go.Proofs.YteapnfobcebpfaaDoor
open Go.RowKit Go.Maps Mov

theorem lkup_del (es : List Mv) (t x : Int) : lkup (del es t) x = fdel (lkup es) t x := by
  unfold fdel
  by_cases e : x = t
  · rw [if_pos e]
    cases h : lkup (del es t) x with
    | none => rfl
    | some f => exact absurd e (mem_del.1 (lkup_some h)).2
  · rw [if_neg e]
    unfold lkup del
    congr 1
    rw [List.find?_filter]
    congr 1
    funext p
    by_cases h : p.1 = x
    · simp [h, e]
    · simp [h]

/-- What the program's variables from, asked and out hold. -/
structure OSt (w : World) (B pf pa po bf ba : Nat) (es out : List Mv) : Prop where
  hf : Blk w pf 44 #[.map (some bf)]
  ha : Blk w pa 44 #[.map (some ba)]
  ho : ∃ A c, Blk w po 22 #[.slice A out.length c] ∧ w.ownsRow B 31 2 (.slice A out.length c) out.length (mcells out)
  mf : ∃ n, n ≤ 1000 ∧ IMap w 3 EI bf n (lkup es)
  ma : ∃ n g, n + es.length ≤ 1000 ∧ IMap w 3 EI ba n g ∧ ∀ x, (g x).getD 0 = (asks es x : Int)
  lo : B ≤ pf ∧ B ≤ pa ∧ B ≤ po ∧ B ≤ bf ∧ B ≤ ba
  ne : bf ≠ ba
  len : out.length + es.length ≤ 1000
  wf : Wf es

theorem Wf.del {es : List Mv} (h : Wf es) (t : Int) : Wf (del es t) := fun m hm => h m (mem_del.1 hm).1
theorem asks_lt {es : List Mv} (x : Int) : asks es x ≤ es.length := List.length_filter_le _ _

theorem infoM : (Tryd.prog.info? 31).map (fun i => (i.zero, i.size, i.bytes)) = some (some (.agg #[.int .i64 0, .int .i64 0]), 2, 16) := by kernel_rfl

theorem OSt.below {w w' : World} {B pf pa po bf ba : Nat} {es out : List Mv} (h : OSt w B pf pa po bf ba es out) (hb : w.grownBy w' none) : OSt w' B pf pa po bf ba es out := by
  obtain ⟨A, c, h1, h2⟩ := h.ho
  obtain ⟨n, hn, h3⟩ := h.mf
  obtain ⟨m, g, hm, h4, h5⟩ := h.ma
  exact ⟨h.hf.grown hb (by simp), h.ha.grown hb (by simp), ⟨A, c, h1.grown hb (by simp), h2.kept hb (by cases hv : (Value.slice A out.length c).ownBlock <;> simp)⟩, ⟨n, hn, h3.kept hb (by simp)⟩, ⟨m, g, hm, h4.kept hb (by simp), h5⟩, h.lo, h.ne, h.len, h.wf⟩

theorem doneF_none {es : List Mv} {t : Int} (h : lkup es t = none) : ∀ n, doneF n es t = (es, [])
  | 0 => rfl
  | n + 1 => by unfold doneF; rw [h]
theorem doneF_busy {es : List Mv} {t f : Int} (h : lkup es t = some f) (h0 : asks es t ≠ 0) : ∀ n, doneF n es t = (es, [])
  | 0 => rfl
  | n + 1 => by unfold doneF; rw [h]; simp [h0]
theorem doneF_step {es : List Mv} (hn : (keys es).Nodup) {t f : Int} (h : lkup es t = some f) (h0 : asks es t = 0) :
    doneF es.length es t = ((doneF (del es t).length (del es t) f).1, (t, f) :: (doneF (del es t).length (del es t) f).2) := by
  have := del_len hn (lkup_some h)
  rw [← this]
  conv => lhs; unfold doneF
  rw [h]
  simp [h0]

theorem mcells_snoc (l : List Mv) (a b : Int) : mcells (l ++ [(a, b)]) = mcells l ++ [.int .i64 a, .int .i64 b] := by simp [mcells]

set_option maxHeartbeats 400000 in
theorem done_any (B pf pa po bf ba : Nat) (es out : List Mv) (t : Int) (w : World) (h : OSt w B pf pa po bf ba es out) (hn : (keys es).Nodup) (ht : wf64 t) :
    Calls Tryd.prog 17 #[.int .i64 t, .pointer (some ⟨pf, 0, none⟩), .pointer (some ⟨pa, 0, none⟩), .pointer (some ⟨po, 0, none⟩)] w fun e w' => e = .returned (.tuple #[]) ∧ OSt w' B pf pa po bf ba (doneF es.length es t).1 (out ++ (doneF es.length es t).2) ∧ (keys (doneF es.length es t).1).Nodup ∧ Below B w w' := by
  go_enter Tryd.func17, Tryd.ntmps17
  go_wp2_with fail
  go_loopg [0] es.length (fun k v wr => ∃ (es' out' : List Mv) (t' : Int), es'.length = k ∧ v = .int .i64 t' ∧ wf64 t' ∧ (keys es').Nodup ∧ OSt wr B pf pa po bf ba es' out' ∧ Below B w wr ∧
    (doneF es'.length es' t').1 = (doneF es.length es t).1 ∧ out' ++ (doneF es'.length es' t').2 = out ++ (doneF es.length es t).2)
  case atStart => exact ⟨es, out, t, rfl, rfl, ht, hn, h, Below.refl _ _, rfl, rfl⟩
  case round =>
    obtain ⟨es', out', t', rfl, rfl, ht', hn', hs, hb, he, ho⟩ := hrel
    have Hend := Lib.hid (show (doneF es'.length es' t').1 = (doneF es.length es t).1 ∧ out' ++ (doneF es'.length es' t').2 = out ++ (doneF es.length es t).2 from ⟨he, ho⟩)
    clear he ho
    obtain ⟨nf, hnf, mf⟩ := hs.mf
    obtain ⟨na, g, hna, ma, hg⟩ := hs.ma
    have Hg := Lib.hid hg
    clear hg
    have cf := hs.hf.at0
    have ca := hs.ha.at0
    obtain ⟨A, c, ho, hown⟩ := hs.ho
    have co := ho.at0
    have hpo := ho.lt
    have hlo := hs.lo.2.2.1
    have hlen := hs.len
    have hB : B ≤ wr.heap.size := by omega
    cases hk : lkup es' t' with
    | none =>
      have Hk := Lib.hid hk
      clear hk
      go_wp2_with (at_lookup; refine wpList_ilook_ok rfl _ _ 44 rfl Tryd.underlying3 Tryd.underlying44 mf rfl _ rfl ht' (.int .i64 0) (by rw [Hk.out]; rfl) false (by rw [Hk.out]; rfl) ?_)
      have hend := Hend.out
      rw [doneF_none Hk.out] at hend
      simp only [List.append_nil] at hend
      refine bodyPost_ret (results_none rfl _ _ _) rfl ⟨rfl, ?_, ?_, hb⟩
      · rw [← hend.1, ← hend.2]; exact hs
      · rw [← hend.1]; exact hn'
    | some f =>
      have hfw : wf64 f := (hs.wf _ (lkup_some hk)).2
      have Hk := Lib.hid hk
      clear hk
      by_cases h0 : asks es' t' = 0
      · have H0 := Lib.hid h0
        clear h0
        have hsne := ho.own_ne hown (by decide)
        have nf1 : pf ≠ po := hs.hf.ne_ ho (by decide)
        have na1 : pa ≠ po := hs.ha.ne_ ho (by decide)
        have hab := asks_lt (es := es') f
        have hlf := lkup_some Hk.out
        have hdl := del_len hn' hlf
        go_wp2_with (first
          | (at_lookup; refine wpList_ilook_ok rfl _ _ 44 rfl Tryd.underlying3 Tryd.underlying44 mf rfl _ rfl ht' (.int .i64 f) (by rw [Hk.out]; rfl) true (by rw [Hk.out]; rfl) ?_)
          | (at_lookup; refine wpList_ilook rfl _ _ 44 rfl Tryd.underlying3 Tryd.underlying44 ma3 rfl _ rfl hfw (.int .i64 (asks es' f)) (by rw [← Hg.out f]; rfl) ?_)
          | (at_lookup; refine wpList_ilook rfl _ _ 44 rfl Tryd.underlying3 Tryd.underlying44 ma rfl _ rfl ht' (.int .i64 0) (by have e1 := Hg.out t'; rw [H0.out] at e1; show Value.int .i64 ((g t').getD 0) = _; rw [e1]; rfl) ?_)
          | (at_builtin
             refine wpList_append_row rfl (.tmp 21) (.tmp 25) 22 rfl B 31 _ 2 16 Tryd.underlying22 infoM rfl (by omega) A c out'.length (mcells out') rfl (hown.alloc _) wr.heap.size 1 1 31 [.int .i64 t', .int .i64 f] rfl (Blk.new _ _ _) rfl (by intro u hu; simp at hu; rcases hu with rfl | rfl <;> rfl) (by unfold maxLen; omega) (by omega) (by simp; omega) ?_
             intro A1 c1 w1 hown1 hg1 hat1
             have ho1 := (ho.alloc _).grown hg1 (Ne.symm hsne)
             have fo1 := ho1.frozen 0
             have co1 := ho1.at0
             have hf2 := ((hs.hf.alloc _).grown hg1 (Ne.symm (hs.hf.own_ne hown (by decide)))).far (p := ⟨po, 0, none⟩) nf1 (.slice A1 (out'.length + 1) c1)
             have ha2 := ((hs.ha.alloc _).grown hg1 (Ne.symm (hs.ha.own_ne hown (by decide)))).far (p := ⟨po, 0, none⟩) na1 (.slice A1 (out'.length + 1) c1)
             have mf2 := ((mf.alloc _).kept hg1 (mf.own_ne hown)).setCell (p := ⟨po, 0, none⟩) (mf.ne_blk ho) (.slice A1 (out'.length + 1) c1)
             have ma2 := ((ma.alloc _).kept hg1 (ma.own_ne hown)).setCell (p := ⟨po, 0, none⟩) (ma.ne_blk ho) (.slice A1 (out'.length + 1) c1)
             have cf2 := hf2.at0
             have ca2 := ha2.at0)
          | (at_delete
             refine wpList_idel rfl _ _ 44 rfl Tryd.underlying3 Tryd.underlying44 mf2 rfl _ rfl ht' ?_
             intro w3 mf3 hg3
             have ha3 := ha2.grown hg3 (by intro e; injection e with e; exact mf2.ne_blk ha2 e.symm)
             have ma3 := ma2.kept hg3 (by intro e; injection e with e; exact hs.ne e.symm)
             have ca3 := ha3.at0)
          | (at_mapUpdate
             refine wpList_iupd rfl _ _ _ 44 rfl Tryd.underlying3 Tryd.underlying44 ma3 (by unfold maxLen; omega) rfl _ rfl hfw ((asks es' f : Int) - 1) rfl (wf64_of (by omega)) ?_
             intro w4 ma4 hg4))
        have hne := hs.ne
        have hg2 := grown_setCell w1 ⟨po, 0, none⟩ (.slice A1 (out'.length + 1) c1)
        go_roundg (del es' t').length
        case measure => omega
        case rel =>
          have hend := Hend.out
          rw [doneF_step hn' Hk.out H0.out] at hend
          refine ⟨del es' t', out' ++ [(t', f)], f, rfl, rfl, hfw, del_nodup hn' t', ⟨(hf2.grown hg3 ?_).grown hg4 ?_, ha3.grown hg4 ?_, ⟨A1, c1, ?_, ?_⟩, ⟨nf, hnf, (mf3.kept hg4 ?_).congr fun x _ => (lkup_del es' t' x).symm⟩, ⟨na + 1, _, by omega, ma4, fun x => ?_⟩, hs.lo, hs.ne, by simp; omega, hs.wf.del t'⟩, ?_, hend.1, ?_⟩
          · intro e; injection e with e; exact mf2.ne_blk hf2 e.symm
          · intro e; injection e with e; exact ma2.ne_blk hf2 e.symm
          · intro e; injection e with e; exact ma2.ne_blk ha2 e.symm
          · have h2 := ho1.set_ 0 (.slice A1 (out'.length + 1) c1)
            have h3 := (h2.grown hg3 (by intro e; injection e with e; exact mf2.ne_blk h2 e.symm)).grown hg4 (by intro e; injection e with e; exact ma2.ne_blk h2 e.symm)
            simpa using h3
          · have h2 := hown1.kept hg2 (.inr (ho1.own_ne hown1 (by decide)))
            have h3 := (h2.kept hg3 (.inr (Ne.symm (mf2.own_ne h2)))).kept hg4 (.inr (Ne.symm (ma2.own_ne h2)))
            rw [mcells_snoc]
            simpa using h3
          · intro e; injection e with e; exact hne e
          · have h1 := asks_del hn' hlf x
            have h2 := Hg.out x
            unfold fput
            by_cases e : x = f
            · subst e
              simp only [if_true] at h1 ⊢
              simp only [Option.getD_some]
              omega
            · rw [if_neg e, h2]
              rw [if_neg (fun e2 => e e2.symm)] at h1
              omega
          · have h1 := (hb.alloc hB _).grown hg1 (by simp; omega) (fun j hj => (hown.lt j hj).1)
            have h2 := h1.setCell (p := ⟨po, 0, none⟩) hlo (.slice A1 (out'.length + 1) c1)
            have z1 := hg1.size
            simp at z1
            have z2 := hg2.size
            have z3 := hg3.size
            have l1 := hs.lo
            exact (h2.grown hg3 (by omega) (fun j hj => by injection hj with hj; omega)).grown hg4 (by omega) (fun j hj => by injection hj with hj; omega)
          · rw [← hend.2]; simp
      · have ha0 : 0 < asks es' t' := by omega
        have H0 := Lib.hid h0
        clear h0
        go_wp2_with (first | (at_lookup; refine wpList_ilook_ok rfl _ _ 44 rfl Tryd.underlying3 Tryd.underlying44 mf rfl _ rfl ht' (.int .i64 f) (by rw [Hk.out]; rfl) true (by rw [Hk.out]; rfl) ?_) | (at_lookup; refine wpList_ilook rfl _ _ 44 rfl Tryd.underlying3 Tryd.underlying44 ma rfl _ rfl ht' (.int .i64 (asks es' t')) (by rw [← Hg.out t']; rfl) ?_))
        have hend := Hend.out
        rw [doneF_busy Hk.out H0.out] at hend
        simp only [List.append_nil] at hend
        refine bodyPost_ret (results_none rfl _ _ _) rfl ⟨rfl, ?_, ?_, hb⟩
        · rw [← hend.1, ← hend.2]; exact hs
        · rw [← hend.1]; exact hn'
end Go.Proofs.YteapnfobcebpfaaDoor
