/-
  The frame of a statement's proof, whatever its parameters: from a walk that answers true and leaves what was there to the row's words; and what the listed sentinels give.
-/
import Derived.Test.YtcmlfaikdegbfaaGreatDoorSee2
import Derived.ProofKit
import Derived.LaidMore
import Derived.OpenShut
import Derived.Deep.DeepHandedRow
import Derived.Deep.DeepWitnessRowRef
import Derived.Lay
namespace Go.Proofs.YtcmlfaikdegbfaaGreatDoor
open Go.ChangeShapes Go.WideShapes Go.ChangeAt Go.RowKit

theorem own_knob : ownKnob Tryz.prog.godebug = none := by kernel_rfl
theorem laid_out : laidOutB Tryz.prog = true := by kernel_rfl

section
variable {H : Type} {enc : TypeId × Value → H} {P : Program}
theorem below_trodAll (hl : laidOutB P = true) {W W' : World} (hb : Below W.heap.size W W') : ∀ {ts : List TypeId} {vs : List Value} {ds : List (DataW H)} {ps : List MemPlace}, (∀ t ∈ ts, P.readableRec t = true ∧ t < P.types.size) →
    DataW.TrodAll enc P W 0 (fun _ => true) true ts vs ds ps → (∀ x ∈ ps, x.block < W.heap.size) → DataW.TrodAll enc P W' 0 (fun b => decide (b < W.heap.size)) true ts vs ds ps
  | [], [], [], _, _, h, _ => h
  | t :: ts, v :: vs, d :: ds, ps, hr, h, hlt => by
    obtain ⟨p, q, h1, h2, rfl⟩ := h
    exact ⟨p, q, Below.trod hl (hr t List.mem_cons_self).1 (hr t List.mem_cons_self).2 h1 hb (fun x hx => hlt x (List.mem_append_left _ hx)), below_trodAll hl hb (fun u hu => hr u (List.mem_cons_of_mem _ hu)) h2 (fun x hx => hlt x (List.mem_append_right _ hx)), rfl⟩

/-- A walk that answers true and leaves what was there: the row's own words. -/
theorem law_post (hl : laidOutB P = true) {f : Func} {s : ChangeSpec} {W W' : World} {args : Array Value} {ds : List (DataW H)} {before : List MemPlace} {tb : TypeId}
    (hvars : s.vars = []) (hres : f.resultTypes = #[tb]) (htb : P.underlying tb = some .bool)
    (hr : (s.fn H (ds ++ [])).results = [.lit (.bool true)]) (ha : (s.fn H (ds ++ [])).args = ds) (hv : (s.fn H (ds ++ [])).vars = [])
    (hread : ∀ t ∈ f.params.toList, P.readableRec t = true ∧ t < P.types.size)
    (hW : DataW.Whole enc P f.params.toList s.vars false W args.toList ds [] before) (hb : Below W.heap.size W W') :
    s.post enc P f false true false false W args (.bool true) W' := by
  have hW' := hW
  have hlt := DataW.Whole.lt hW
  obtain ⟨p, q, hA, hV, rfl, hfz, hnd⟩ := hW
  rw [hvars] at hV
  have hq : q = [] := hV
  subst hq
  simp only [List.append_nil] at hlt hW'
  refine ⟨ds, [], p, [], p, [], hW', ?_, ?_, ?_, hb.frame _, fun h => by cases h⟩
  · rw [hr, hres]
    exact trodAll_mk1 (shut_bool htb _)
  · rw [ha]
    exact below_trodAll hl hb hread hA hlt
  · rw [hv, hvars]
    rfl
end

/-! ### arguments as rows -/
set_option maxRecDepth 100000 in
theorem open_ints_rd {H : Type} {enc : TypeId × Value → H} {W : World} {base : Nat} {t e : TypeId} {v : Value} {d : DataW H} {p : List MemPlace} (ht : Tryz.prog.underlying t = some (.slice e)) (he : Tryz.prog.underlying e = some (.int .i64)) (hc : Tryz.prog.cellsOf e = 1)
    (hv : Value.okWide Tryz.prog W .any base t v) (h : DataW.Trod enc Tryz.prog W 0 (fun _ => true) true t v d p) :
    ∃ A n c l, v = .slice A n c ∧ Rd W W.heap.size 1 A n (ints l) ∧ (∀ x ∈ l, wf64 x) ∧ n ≤ 9223372036854775807 := by
  obtain ⟨a0, len, cap, rfl⟩ := okWide_slice ht hv
  obtain ⟨fuel, hf⟩ := h
  rcases open_ints ht he hc hf with ⟨hcs, _⟩ | ⟨a, len', cap', zs, hcs, _, hl, hm, hz, _, hcell, hwz⟩
  · simp [Value.cells] at hcs
    obtain ⟨rfl, rfl, rfl⟩ := hcs
    exact ⟨none, 0, 0, [], rfl, Rd.nil _ _ _ _, fun x hx => (by cases hx), by omega⟩
  · simp [Value.cells] at hcs
    obtain ⟨rfl, rfl, rfl⟩ := hcs
    simp only [if_true] at hz
    refine ⟨some a, len, cap, zs.take len, rfl, ⟨by simp [ints]; omega, fun hn => ?_⟩, fun x hx => hwz x (List.mem_of_mem_take hx), by unfold maxLen at hm; omega⟩
    obtain ⟨b, off, rfl, hcell2⟩ := _root_.Go.ints_at hcell (by omega)
    refine ⟨b, off, rfl, block_lt_of_cell (hcell2 0 (by omega)), fun j u hu => ?_⟩
    have hj : j < len := by
      have := (List.getElem?_eq_some_iff.1 hu).1
      simp [ints] at this; omega
    rw [hcell2 j (by omega), ← hu]
    simp [ints, hj, List.getElem?_eq_getElem (show j < zs.length by omega)]

/-! ### what the listed sentinels give -/
def nmOf : Nat → String
  | 1 => "overdrive/api.ErrMany"
  | 2 => "overdrive/api.ErrKind"
  | 3 => "overdrive/api.ErrIndex"
  | 4 => "overdrive/api.ErrTarget"
  | 5 => "overdrive/api.ErrShape"
  | 6 => "overdrive/api.ErrEnd"
  | 7 => "overdrive/api.ErrByte"
  | 8 => "overdrive/api.ErrStack"
  | 9 => "overdrive/api.ErrMerge"
  | 10 => "overdrive/api.ErrFall"
  | 11 => "overdrive/api.ErrLimit"
  | 12 => "overdrive/api.ErrNode"
  | 13 => "overdrive/api.ErrState"
  | _ => "overdrive/api.ErrRoom"
theorem gNamed : ∀ k, 1 ≤ k → k ≤ 14 → Tryz.prog.globalNamed (nmOf k) = some (gOf k) ∧ (Tryz.prog.globals[gOf k]?).map (·.type) = some 52 := by
  intro k h1 h2
  have : k = 1 ∨ k = 2 ∨ k = 3 ∨ k = 4 ∨ k = 5 ∨ k = 6 ∨ k = 7 ∨ k = 8 ∨ k = 9 ∨ k = 10 ∨ k = 11 ∨ k = 12 ∨ k = 13 ∨ k = 14 := by omega
  rcases this with rfl | rfl | rfl | rfl | rfl | rfl | rfl | rfl | rfl | rfl | rfl | rfl | rfl | rfl <;> exact ⟨by kernel_rfl, by kernel_rfl⟩
theorem starE : "*" ++ "errors.errorString" = "*errors.errorString" := by decide
theorem rowE (u : TypeId) (h : Tryz.prog.typeName? 3 u = some "*errors.errorString") : u = 150 :=
  typeName_ptr_named (nm := "errors.errorString") (by rw [starE]; kernel_rfl) (by kernel_rfl) (by decide) u (by rw [starE]; exact h)
theorem cellsES : Tryz.prog.cellsOf 167 = 1 := by kernel_rfl
theorem cellsS : Tryz.prog.cellsOf 9 = 1 := by kernel_rfl

/-- The list names the sentinels of these numbers, and maybe more. -/
inductive LaidIs : List (String × DataW Unit) → List Nat → Prop
  | nil : LaidIs [] []
  | sent {x : String × DataW Unit} {r : List (String × DataW Unit)} {k : Nat} {s : List Nat} (h1 : 1 ≤ k ∧ k ≤ 14) (h2 : x.1 = nmOf k) (h3 : ∃ text, x.2 = .iface "*errors.errorString" (.ptr (.agg [.lit (.string text)]))) (h : LaidIs r s) : LaidIs (x :: r) (k :: s)
  | skip {x : String × DataW Unit} {r : List (String × DataW Unit)} {s : List Nat} (h : LaidIs r s) : LaidIs (x :: r) s

set_option maxRecDepth 100000 in
theorem sents_of_laid {W : World} {L : List (String × DataW Unit)} {S : List Nat} (hi : LaidIs L S) : ∀ (ps : List MemPlace), DataW.LaidVars Tryz.prog W L ps →
    (∀ b off, MemPlace.cell b off ∈ ps → (∃ c t, W.heap[b]? = some (.cells c t (0, 0))) ∧ ∀ u v, W.cell? ⟨b, off, none⟩ = some (.iface u v) → Value.okWide Tryz.prog W .any 0 u v) →
    ∃ ads : List Addr, ads.length = S.length ∧ (ads.map fun a => MemPlace.cell a.block a.off).Sublist ps ∧ ∀ (i k : Nat) (a : Addr), S[i]? = some k → ads[i]? = some a → W.cell? ⟨gOf k, 0, none⟩ = some (sent a) ∧ a.spot = none := by
  induction hi with
  | nil => intro ps _ _; exact ⟨[], rfl, by simp, fun i k a h => by simp at h⟩
  | skip hr ih =>
    rename_i x r s
    intro ps hv hrows
    obtain ⟨n, d⟩ := x
    obtain ⟨g0, t0, cs0, f0, p0, q0, hg0, ht0, hv0, hd0, hq, rfl⟩ := hv
    obtain ⟨ads, h1, h2, h3⟩ := ih q0 hq (fun b off hm => hrows b off (List.mem_append_right _ hm))
    exact ⟨ads, h1, h2.trans (List.sublist_append_right _ _), h3⟩
  | sent hk hn hd hr ih =>
    rename_i x r k s
    intro ps hv hrows
    obtain ⟨n, d⟩ := x
    obtain ⟨text, hd⟩ := hd
    obtain ⟨g0, t0, cs0, f0, p0, q0, hg0, ht0, hv0, hd0, hq, rfl⟩ := hv
    simp only at hn hd
    subst hn hd
    obtain ⟨hgn, hgt⟩ := gNamed k hk.1 hk.2
    obtain rfl := Option.some.inj (hgn.symm.trans hg0)
    obtain rfl := Option.some.inj (hgt.symm.trans ht0)
    obtain ⟨l0⟩ := cs0
    obtain ⟨ads, h1, h2, h3⟩ := ih q0 hq (fun b off hm => hrows b off (List.mem_append_right _ hm))
    have ok0 : ∀ u v, l0 = [.iface u v] → Value.okWide Tryz.prog W .any 0 u v := fun u v e => by
      subst e
      exact (hrows (gOf k) 0 (by simp [MemPlace.row])).2 u v (by simpa using World.var?_cell hgn hv0 0)
    obtain ⟨a0, s0, rfl, hc0, _, _, rfl⟩ := errorString_of_trod Tryz.underlying52 rowE Tryz.underlying150 Tryz.underlying167 rfl rfl Tryz.underlying9 cellsES cellsS hd0 ok0
    refine ⟨a0 :: ads, by simp [h1], ?_, fun i k' a hk' ha => ?_⟩
    · simp only [List.map_cons]
      have e1 : MemPlace.row a0 1 = [.cell a0.block a0.off] := by simp [MemPlace.row]
      rw [e1]
      exact (List.Sublist.cons_cons _ h2).trans (by simp)
    · cases i with
      | zero =>
        simp at hk' ha
        subst hk' ha
        refine ⟨by simpa [sent] using World.var?_cell hgn hv0 0, ?_⟩
        unfold World.cell? at hc0
        cases hsp : a0.spot with
        | none => rfl
        | some q =>
          rw [hsp] at hc0
          split at hc0 <;> simp at hc0
      | succ i => exact h3 i k' a (by simpa using hk') (by simpa using ha)

set_option maxRecDepth 100000 in
theorem sent_of_laid {W : World} {L : List (String × DataW Unit)} {S : List Nat} (h : laidMetH Tryz.prog L W) (hplain : (L.all fun x => x.2.handleName?.isNone) = true) (hi : LaidIs L S) : ∃ a, Sent W W.heap.size S a := by
  rw [MakeChecks.laidMetH_plain _ _ _ hplain] at h
  obtain ⟨ps, hv, hnd, hrows⟩ := h
  obtain ⟨ads, h1, h2, h3⟩ := sents_of_laid hi ps hv hrows
  have hget : ∀ k ∈ S, ∃ i a, S[i]? = some k ∧ ads[i]? = some a ∧ S.idxOf k = i := fun k hk => by
    have hlt : S.idxOf k < S.length := List.idxOf_lt_length_of_mem hk
    refine ⟨S.idxOf k, ads[S.idxOf k]'(by omega), ?_, List.getElem?_eq_getElem (by omega), rfl⟩
    rw [List.getElem?_eq_getElem hlt]
    simp
  refine ⟨fun k => (ads[S.idxOf k]?).getD ⟨0, 0, none⟩, ⟨fun k hk => ?_, fun k hk => ?_, fun k hk j hj e => ?_⟩⟩
  · obtain ⟨i, a, e1, e2, e3⟩ := hget k hk
    obtain ⟨q1, q2⟩ := h3 i k a e1 e2
    rw [e3, e2]
    exact ⟨block_lt_of_cell q1, q1⟩
  · obtain ⟨i, a, e1, e2, e3⟩ := hget k hk
    rw [e3, e2]
    have hm : MemPlace.cell a.block a.off ∈ ps := h2.mem (List.mem_map.2 ⟨a, List.mem_of_getElem? e2, rfl⟩)
    obtain ⟨c, t, hr⟩ := (hrows _ _ hm).1
    exact ⟨(Array.getElem?_eq_some_iff.1 hr).1, c, t, hr⟩
  · obtain ⟨i, a, e1, e2, e3⟩ := hget k hk
    obtain ⟨i', a', e1', e2', e3'⟩ := hget j hj
    simp only [e3, e2, e3', e2', Option.getD_some] at e
    subst e
    have hn : (ads.map fun a => MemPlace.cell a.block a.off).Nodup := hnd.sublist h2
    have q1 : (ads.map fun a => MemPlace.cell a.block a.off)[i]? = some (.cell a.block a.off) := by rw [List.getElem?_map, e2]; rfl
    have q2 : (ads.map fun a => MemPlace.cell a.block a.off)[i']? = some (.cell a.block a.off) := by rw [List.getElem?_map, e2']; rfl
    have := (List.getElem?_inj (List.getElem?_eq_some_iff.1 q1).1 hn).1 (q1.trans q2.symm)
    subst this
    rw [e1] at e1'
    injection e1'
end Go.Proofs.YtcmlfaikdegbfaaGreatDoor
