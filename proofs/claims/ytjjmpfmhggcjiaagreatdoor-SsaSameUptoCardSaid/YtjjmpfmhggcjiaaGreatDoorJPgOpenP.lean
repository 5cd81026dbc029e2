/-
 Frame, PgOpen, PgOpenP.
-/
import Derived.ProofKit
import Derived.LaidMore
import Derived.OpenShut
import Derived.Deep.DeepHandedRow
import Derived.Deep.DeepWitnessRowRef
import Derived.Lay
import Derived.Deep.Slices
import Derived.Deep.Fields
import Derived.ChangeSame
import Derived.Lib.SmallJoins
import Derived.Test.YtjjmpfmhggcjiaaGreatDoorJSee2
import Derived.Test.YtjjmpfmhggcjiaaGreatDoorJShape
set_option linter.unusedSimpArgs false
set_option linter.unusedVariables false
namespace Go.Proofs.YtjjmpfmhggcjiaaGreatDoor
open Go.ChangeShapes Go.WideShapes Go.ChangeAt Go.RowKit
theorem own_knob : ownKnob Tryz.prog.godebug = none := by kernel_rfl
theorem laid_out : laidOutB Tryz.prog = true := by kernel_rfl
section
variable {H : Type} {enc : TypeId × Value → H} {P : Program}
theorem below_trodAll (hl : laidOutB P = true) {W W' : World} (hb : Below W.heap.size W W') : ∀ {ts : List TypeId} {vs : List Value} {ds : List (DataW H)} {ps : List MemPlace}, (∀ t ∈ ts, P.readableRec t = true ∧ t < P.types.size) →
 DataW.TrodAll enc P W 0 (fun _ => true) true ts vs ds ps → (∀ x ∈ ps, x.block < W.heap.size) → DataW.TrodAll enc P W' 0 (fun b => decide (b < W.heap.size)) true ts vs ds ps
 | [], [], [], _, _, h, _ => h
 | t :: ts, v :: vs, d :: ds, ps, hr, h, hlt => by
   obtain ⟨p, q, h1, h2, rfl⟩ := h
   exact ⟨p, q, Below.trod hl (hr t List.mem_cons_self).1 (hr t List.mem_cons_self).2 h1 hb (fun x hx => hlt x (List.mem_append_left _ hx)), below_trodAll hl hb (fun u hu => hr u (List.mem_cons_of_mem _ hu)) h2 (fun x hx => hlt x (List.mem_append_right _ hx)), rfl⟩
/-- A walk that answers true and leaves what was there: the row's own words. -/
theorem law_post (hl : laidOutB P = true) {f : Func} {s : ChangeSpec} {W W' : World} {args : Array Value} {ds : List (DataW H)} {before : List MemPlace} {tb : TypeId}
 (hvars : s.vars = []) (hres : f.resultTypes = #[tb]) (htb : P.underlying tb = some .bool)
 (hr : (s.fn H (ds ++ [])).results = [.lit (.bool true)]) (ha : (s.fn H (ds ++ [])).args = ds) (hv : (s.fn H (ds ++ [])).vars = [])
 (hread : ∀ t ∈ f.params.toList, P.readableRec t = true ∧ t < P.types.size)
 (hW : DataW.Whole enc P f.params.toList s.vars false W args.toList ds [] before) (hb : Below W.heap.size W W') :
 s.post enc P f false true false false W args (.bool true) W' := by
 have hW' := hW
 have hlt := DataW.Whole.lt hW
 obtain ⟨p, q, hA, hV, rfl, hfz, hnd⟩ := hW
 rw [hvars] at hV
 have hq : q = [] := hV
 subst hq
 simp only [List.append_nil] at hlt hW'
 refine ⟨ds, [], p, [], p, [], hW', ?_, ?_, ?_, hb.frame _, fun h => by cases h⟩
 · rw [hr, hres]
   exact trodAll_mk1 (shut_bool htb _)
 · rw [ha]
   exact below_trodAll hl hb hread hA hlt
 · rw [hv, hvars]
   rfl
end
/-! ### what the listed sentinels give -/
def nmOf : Nat → String
 | 1 => "overdrive/api.ErrMany"
 | 2 => "overdrive/api.ErrKind"
 | 3 => "overdrive/api.ErrIndex"
 | 4 => "overdrive/api.ErrTarget"
 | 5 => "overdrive/api.ErrShape"
 | 6 => "overdrive/api.ErrEnd"
 | 7 => "overdrive/api.ErrByte"
 | 8 => "overdrive/api.ErrStack"
 | 9 => "overdrive/api.ErrMerge"
 | 10 => "overdrive/api.ErrFall"
 | 11 => "overdrive/api.ErrLimit"
 | 12 => "overdrive/api.ErrNode"
 | 13 => "overdrive/api.ErrState"
 | _ => "overdrive/api.ErrRoom"
theorem gNamed : ∀ k, 1 ≤ k → k ≤ 14 → Tryz.prog.globalNamed (nmOf k) = some (gOf k) ∧ (Tryz.prog.globals[gOf k]?).map (·.type) = some 40 := by
 intro k h1 h2
 have : k = 1 ∨ k = 2 ∨ k = 3 ∨ k = 4 ∨ k = 5 ∨ k = 6 ∨ k = 7 ∨ k = 8 ∨ k = 9 ∨ k = 10 ∨ k = 11 ∨ k = 12 ∨ k = 13 ∨ k = 14 := by omega
 rcases this with rfl | rfl | rfl | rfl | rfl | rfl | rfl | rfl | rfl | rfl | rfl | rfl | rfl | rfl <;> exact ⟨by kernel_rfl, by kernel_rfl⟩
theorem starE : "*" ++ "errors.errorString" = "*errors.errorString" := by decide
theorem rowE (u : TypeId) (h : Tryz.prog.typeName? 3 u = some "*errors.errorString") : u = 345 :=
 typeName_ptr_named (nm := "errors.errorString") (by rw [starE]; kernel_rfl) (by kernel_rfl) (by decide) u (by rw [starE]; exact h)
theorem cellsES : Tryz.prog.cellsOf 360 = 1 := by kernel_rfl
theorem cellsS : Tryz.prog.cellsOf 9 = 1 := by kernel_rfl
/-- The list names the sentinels of these numbers, and maybe more. -/
inductive LaidIs : List (String × DataW Unit) → List Nat → Prop
 | nil : LaidIs [] []
 | sent {x : String × DataW Unit} {r : List (String × DataW Unit)} {k : Nat} {s : List Nat} (h1 : 1 ≤ k ∧ k ≤ 14) (h2 : x.1 = nmOf k) (h3 : ∃ text, x.2 = .iface "*errors.errorString" (.ptr (.agg [.lit (.string text)]))) (h : LaidIs r s) : LaidIs (x :: r) (k :: s)
 | skip {x : String × DataW Unit} {r : List (String × DataW Unit)} {s : List Nat} (h : LaidIs r s) : LaidIs (x :: r) s
set_option maxRecDepth 100000 in
theorem sents_of_laid {W : World} {L : List (String × DataW Unit)} {S : List Nat} (hi : LaidIs L S) : ∀ (ps : List MemPlace), DataW.LaidVars Tryz.prog W L ps →
 (∀ b off, MemPlace.cell b off ∈ ps → (∃ c t, W.heap[b]? = some (.cells c t (0, 0))) ∧ ∀ u v, W.cell? ⟨b, off, none⟩ = some (.iface u v) → Value.okWide Tryz.prog W .any 0 u v) →
 ∃ ads : List Addr, ads.length = S.length ∧ (ads.map fun a => MemPlace.cell a.block a.off).Sublist ps ∧ ∀ (i k : Nat) (a : Addr), S[i]? = some k → ads[i]? = some a → W.cell? ⟨gOf k, 0, none⟩ = some (sent a) ∧ a.spot = none := by
 induction hi with
 | nil => intro ps _ _; exact ⟨[], rfl, by simp, fun i k a h => by simp at h⟩
 | skip hr ih =>
   rename_i x r s
   intro ps hv hrows
   obtain ⟨n, d⟩ := x
   obtain ⟨g0, t0, cs0, f0, p0, q0, hg0, ht0, hv0, hd0, hq, rfl⟩ := hv
   obtain ⟨ads, h1, h2, h3⟩ := ih q0 hq (fun b off hm => hrows b off (List.mem_append_right _ hm))
   exact ⟨ads, h1, h2.trans (List.sublist_append_right _ _), h3⟩
 | sent hk hn hd hr ih =>
   rename_i x r k s
   intro ps hv hrows
   obtain ⟨n, d⟩ := x
   obtain ⟨text, hd⟩ := hd
   obtain ⟨g0, t0, cs0, f0, p0, q0, hg0, ht0, hv0, hd0, hq, rfl⟩ := hv
   simp only at hn hd
   subst hn hd
   obtain ⟨hgn, hgt⟩ := gNamed k hk.1 hk.2
   obtain rfl := Option.some.inj (hgn.symm.trans hg0)
   obtain rfl := Option.some.inj (hgt.symm.trans ht0)
   obtain ⟨l0⟩ := cs0
   obtain ⟨ads, h1, h2, h3⟩ := ih q0 hq (fun b off hm => hrows b off (List.mem_append_right _ hm))
   have ok0 : ∀ u v, l0 = [.iface u v] → Value.okWide Tryz.prog W .any 0 u v := fun u v e => by
    subst e
    exact (hrows (gOf k) 0 (by simp [MemPlace.row])).2 u v (by simpa using World.var?_cell hgn hv0 0)
   obtain ⟨a0, s0, rfl, hc0, _, _, rfl⟩ := errorString_of_trod Tryz.underlying40 rowE Tryz.underlying345 Tryz.underlying360 rfl rfl Tryz.underlying9 cellsES cellsS hd0 ok0
   refine ⟨a0 :: ads, by simp [h1], ?_, fun i k' a hk' ha => ?_⟩
   · simp only [List.map_cons]
     have e1 : MemPlace.row a0 1 = [.cell a0.block a0.off] := by simp [MemPlace.row]
     rw [e1]
     exact (List.Sublist.cons_cons _ h2).trans (by simp)
   · cases i with
     | zero =>
       simp at hk' ha
       subst hk' ha
       refine ⟨by simpa [sent] using World.var?_cell hgn hv0 0, ?_⟩
       unfold World.cell? at hc0
       cases hsp : a0.spot with
       | none => rfl
       | some q =>
         rw [hsp] at hc0
         split at hc0 <;> simp at hc0
     | succ i => exact h3 i k' a (by simpa using hk') (by simpa using ha)
set_option maxRecDepth 100000 in
theorem sent_of_laid {W : World} {L : List (String × DataW Unit)} {S : List Nat} (h : laidMetH Tryz.prog L W) (hplain : (L.all fun x => x.2.handleName?.isNone) = true) (hi : LaidIs L S) : ∃ a, Sent W W.heap.size S a := by
 rw [MakeChecks.laidMetH_plain _ _ _ hplain] at h
 obtain ⟨ps, hv, hnd, hrows⟩ := h
 obtain ⟨ads, h1, h2, h3⟩ := sents_of_laid hi ps hv hrows
 have hget : ∀ k ∈ S, ∃ i a, S[i]? = some k ∧ ads[i]? = some a ∧ S.idxOf k = i := fun k hk => by
  have hlt : S.idxOf k < S.length := List.idxOf_lt_length_of_mem hk
  refine ⟨S.idxOf k, ads[S.idxOf k]'(by omega), ?_, List.getElem?_eq_getElem (by omega), rfl⟩
  rw [List.getElem?_eq_getElem hlt]
  simp
 refine ⟨fun k => (ads[S.idxOf k]?).getD ⟨0, 0, none⟩, ⟨fun k hk => ?_, fun k hk => ?_, fun k hk j hj e => ?_⟩⟩
 · obtain ⟨i, a, e1, e2, e3⟩ := hget k hk
   obtain ⟨q1, q2⟩ := h3 i k a e1 e2
   rw [e3, e2]
   exact ⟨block_lt_of_cell q1, q1⟩
 · obtain ⟨i, a, e1, e2, e3⟩ := hget k hk
   rw [e3, e2]
   have hm : MemPlace.cell a.block a.off ∈ ps := h2.mem (List.mem_map.2 ⟨a, List.mem_of_getElem? e2, rfl⟩)
   obtain ⟨c, t, hr⟩ := (hrows _ _ hm).1
   exact ⟨(Array.getElem?_eq_some_iff.1 hr).1, c, t, hr⟩
 · obtain ⟨i, a, e1, e2, e3⟩ := hget k hk
   obtain ⟨i', a', e1', e2', e3'⟩ := hget j hj
   simp only [e3, e2, e3', e2', Option.getD_some] at e
   subst e
   have hn : (ads.map fun a => MemPlace.cell a.block a.off).Nodup := hnd.sublist h2
   have q1 : (ads.map fun a => MemPlace.cell a.block a.off)[i]? = some (.cell a.block a.off) := by rw [List.getElem?_map, e2]; rfl
   have q2 : (ads.map fun a => MemPlace.cell a.block a.off)[i']? = some (.cell a.block a.off) := by rw [List.getElem?_map, e2']; rfl
   have := (List.getElem?_inj (List.getElem?_eq_some_iff.1 q1).1 hn).1 (q1.trans q2.symm)
   subst this
   rw [e1] at e1'
   injection e1'
end Go.Proofs.YtjjmpfmhggcjiaaGreatDoor
namespace Go.Proofs.YtjjmpfmhggcjiaaGreatDoor
open Go.ChangeShapes Go.WideShapes Go.Deep Go.RowKit
section
variable {H : Type} {enc : TypeId × Value → H} {P : Program} {w : World} {base : Nat} {spare : Nat → Bool} {held : Bool}
theorem open_slice_fields {t e : TypeId} {fs : Array Field} {fuel : Nat} {cs : List Value} {x : DataW H × List MemPlace} (ht : P.underlying t = some (.slice e)) (he : P.underlying e = some (.struct fs))
 (hone : oneCellFields P fs = true) (hC : P.cellsOf e = fs.size) (h : DataW.trod enc P w base spare held fuel t cs = some x) :
 (cs = [.slice none 0 0] ∧ x = (.nil, [])) ∨
 ∃ (a : Addr) (len cap m : Nat) (D : Nat → DataW H) (Pl : Nat → List MemPlace), cs = [.slice (some a) len cap] ∧ base ≤ a.block ∧ len ≤ cap ∧ cap ≤ maxLen ∧ m = (if spare a.block then cap else len) ∧
  x = (.slice ((List.range len).map D) ((List.range (m - len)).map fun j => D (len + j)), MemPlace.row a (m * fs.size) ++ (List.range m).flatMap Pl) ∧
  ∀ i, i < m → ∃ (ys : List (DataW H × List MemPlace)) (n : Nat), D i = .agg (ys.map (·.1)) ∧ Pl i = ys.flatMap (·.2) ∧ ys.length = fs.size ∧
   ∀ (j : Nat) (f : Field), fs[j]? = some f → ∃ (v : Value) (y : DataW H × List MemPlace), w.cell? (a.add (i * fs.size + j)) = some v ∧ ys[j]? = some y ∧ DataW.trod enc P w base spare held n f.type [v] = some y := by
 rcases open_slice ht h with h0 | ⟨a, len, cap, m, n, D, Pl, hcs, hb, hl, hm, hmm, hx, hi⟩
 · exact .inl h0
 · refine .inr ⟨a, len, cap, m, D, Pl, hcs, hb, hl, hm, hmm, by rw [hC] at hx; exact hx, fun i him => ?_⟩
   obtain ⟨cs', hc, ht'⟩ := hi i him
   rw [hC] at hc
   obtain ⟨ys, n', hn', hy, hlen, hyl, hf⟩ := DataW.trod_struct he ht'
   obtain ⟨_, hcl, hat⟩ := World.cells?_some hc
   simp only [Prod.mk.injEq] at hy
   refine ⟨ys, n', hy.1, hy.2, hyl, fun j f hj => ?_⟩
   obtain ⟨ho, hk⟩ := hone_of hone j f hj
   have hjl : j < fs.size := (Array.getElem?_eq_some_iff.1 hj).1
   have hcell := hat j hjl
   have hv : cs'[j]? = some (cs'[j]'(by omega)) := List.getElem?_eq_getElem (by omega)
   have h1 := hf j f hj
   rw [ho, hk] at h1
   have hone' : (cs'.drop j).take 1 = [cs'[j]'(by omega)] := by
    rw [List.drop_eq_getElem_cons (by omega)]
    rfl
   rw [hone'] at h1
   have hys : ys[j]? = some (ys[j]'(by omega)) := List.getElem?_eq_getElem (by omega)
   refine ⟨_, _, ?_, hys, h1.trans hys⟩
   rw [← Go.Deep.add_add, hcell, hv]
end
end Go.Proofs.YtjjmpfmhggcjiaaGreatDoor
namespace Go.Proofs.YtjjmpfmhggcjiaaGreatDoor
open Go.ChangeShapes Go.WideShapes Go.Deep Go.RowKit Go.Joins
theorem rd_mk {α : Type} {W : World} {a : Addr} (g : α → List Value) (s : Nat) (hs : 0 < s) (hg : ∀ x, (g x).length = s) (f : Nat → α) (len : Nat)
 (hc : ∀ i, i < len → ∀ j u, (g (f i))[j]? = some u → W.cell? (a.add (i * s + j)) = some u) : Rd W W.heap.size s (some a) len (((List.range len).map f).flatMap g) := by
 refine ⟨by rw [flat_len g s hg]; simp, fun hn => ?_⟩
 have h0 : (g (f 0))[0]? = some ((g (f 0))[0]'(by rw [hg]; exact hs)) := List.getElem?_eq_getElem _
 have hc0 := hc 0 hn 0 _ h0
 obtain ⟨b, off, spot⟩ := a
 have hspot : spot = none := by simpa [Addr.add] using World.cell?_spot hc0
 subst hspot
 refine ⟨b, off, rfl, block_lt_of_cell (a := ⟨b, off + 0, none⟩) (by simpa [Addr.add] using hc0), fun j u hu => ?_⟩
 have hj : j < len * s := by
  have := (List.getElem?_eq_some_iff.1 hu).1
  rw [flat_len g s hg] at this
  simpa using this
 have hjs : j / s < len := by rwa [Nat.div_lt_iff_lt_mul hs]
 have hx : ((List.range len).map f)[j / s]? = some (f (j / s)) := by simp [hjs]
 have key := flat_at g s hg _ (j / s) (j % s) _ hx (Nat.mod_lt _ hs)
 have ej : j / s * s + j % s = j := Nat.div_add_mod' j s
 rw [ej] at key
 have := hc (j / s) hjs (j % s) u (key.symm.trans hu)
 rwa [ej, Go.WideShapes.add_plain] at this
section
variable {H : Type} {enc : TypeId × Value → H} {W : World}
end
end Go.Proofs.YtjjmpfmhggcjiaaGreatDoor
