/-
 Rv3.
-/
import Derived.Test.YtjjmpfmhggcjiaaGreatDoorJVr7
import Derived.Test.YtjjmpfmhggcjiaaGreatDoorJRv2
import Derived.Test.YtjjmpfmhggcjiaaGreatDoorJPgRefMay
set_option linter.unusedSimpArgs false
set_option linter.unusedVariables false
namespace Go.Proofs.YtjjmpfmhggcjiaaGreatDoor
open Go.RowKit Go.Maps
/-- What the document's verifier knows of a method, in memory. -/
def riShape : Shape Vs where
 size := 3
 H := (Option Addr × Nat) × (Option Addr × Nat)
 cell s h := [.slice h.1.1 s.seen.length h.1.2, .slice h.2.1 s.stacks.length h.2.2, .int .i64 s.most]
 len _ _ := rfl
 inner S w s h := RdS w S 1 h.1.1 s.seen.length (s.seen.map Value.bool) ∧ RdS w S 1 h.2.1 s.stacks.length (s.stacks.map Value.string)
 keep h hk := ⟨h.1.keep hk, h.2.keep hk⟩
 more h hs := ⟨h.1.more hs, h.2.more hs⟩
theorem infoRm : (Tryz.prog.info? 142).map (fun i => (i.zero, i.size, i.bytes)) = some (some (.agg #[.slice none 0 0, .slice none 0 0, .int .i64 0]), 3, 56) := by kernel_rfl
def EffSmall (f : Eff) : Prop := f.1.size ≤ 1000 ∧ f.2.1.size ≤ 1000
theorem effSmall_ite {c : Prop} [Decidable c] {a b : Eff} (h1 : EffSmall a) (h2 : EffSmall b) : EffSmall (if c then a else b) := by
 split <;> assumption
theorem effSmall_of {a b : ByteArray} {x : Bool} (h1 : a.size ≤ 1000) (h2 : b.size ≤ 1000) : EffSmall (a, b, x) := ⟨h1, h2⟩
theorem eff_le {p : Prg} {mine : Mth} {x : Ins} (hf : ∀ i : Int, (methodF p i).pa.size ≤ 100 ∧ (methodF p i).re.size ≤ 100) (hm : mine.re.size ≤ 100) : (effF p mine x).1.size ≤ 1000 ∧ (effF p mine x).2.1.size ≤ 1000 := by
 have h3 := hf x.a
 have e1 : sII.size = 2 := rfl
 have e2 : sI.size = 1 := rfl
 have e3 : sE.size = 0 := rfl
 have e4 : sR.size = 1 := rfl
 have e5 : sRR.size = 2 := rfl
 have e6 : sRI.size = 2 := rfl
 have h4 := atB_le (mine.pa ++ mine.lo) x.a
 have h5 := atB_le sIRs x.a
 have h6 := fieldF_le p x.a x.b
 show EffSmall (effF p mine x)
 unfold effF
 repeat' (first | refine effSmall_ite ?_ ?_ | refine effSmall_of ?_ ?_)
 all_goals ((try simp only [ByteArray.size_append]) <;> omega)
theorem re_le {m : Mth} {b : Bool} (h : headBad m b = 0) : m.re.size ≤ 100 := by
 unfold headBad at h
 split at h
 · cases h
 · split at h
   · cases h
   · rename_i h1 h2
     have h3 : retOk m.re = true := by
      cases hr : retOk m.re with
      | true => rfl
      | false => exact absurd (.inr (.inr (.inl hr))) h2
     unfold retOk at h3
     simp only [Bool.or_eq_true, beq_iff_eq, List.isEmpty_iff] at h3
     have hs : m.re.size = m.re.toList.length := by rw [ByteArray.toList_eq]; exact Array.length_toList.symm
     rcases h3 with (h3 | h3) | h3 <;> rw [hs, h3] <;> decide
theorem mf_le {p : Prg} (F : Fair p) (i : Int) : (methodF p i).pa.size ≤ 100 ∧ (methodF p i).re.size ≤ 100 := by
 unfold methodF
 split
 · rename_i h
   have h1 : i.toNat < p.methods.length := by
    have := h
    simp [inB] at this
    omega
   have h2 := F.head i.toNat h1
   have h3 := (head_len h2).1
   have h4 := re_le h2
   exact ⟨by omega, h4⟩
 · decide
theorem may_zero {p : Prg} (h : (codeOf (mayP p).1 : Int) = 0) : mayP p = (0, []) := by
 have h0 : (mayP p).1 = 0 := by
  unfold codeOf at h
  split at h
  · assumption
  · omega
 have F := fair_of h0
 unfold mayP at h0 ⊢
 have hm := F.many
 unfold manyP at hm
 rw [if_neg hm] at h0 ⊢
 cases h1 : firstOf (clsBad p) p.classes.length with
 | some f =>
   rw [h1] at h0
   obtain ⟨j, hj⟩ := firstOf_ex h1
   exact absurd (by simpa using h0) (cls_ne hj)
 | none =>
   rw [h1] at h0
   cases h2 : firstOf (mthBad p) p.methods.length with
   | some f =>
     rw [h2] at h0
     obtain ⟨j, hj⟩ := firstOf_ex h2
     exact absurd (by simpa using h0) (mth_ne hj)
   | none => rfl
theorem ver_inj {p : Prg} {vs ws : List Vs} (h1 : Ver p vs) (h2 : Ver p ws) : vs = ws := by
 apply List.ext_getElem
 · rw [h1.len, h2.len]
 · intro i a b
   have e1 := h1.ver i (by rw [← h1.len]; exact a)
   have e2 := h2.ver i (by rw [← h1.len]; exact a)
   rw [e1] at e2
   simpa [a, b] using e2
/-- So far it comes through. -/
def RofOk (p : Prg) (B : Nat) (wr : World) (k n : Nat) (A : Option Addr) (c : Nat) : Prop :=
 n = k ∧ mayP p = (0, []) ∧ ∃ (ws : List Vs) (hs : List ((Option Addr × Nat) × (Option Addr × Nat))), ws.length = k ∧ (∀ j, j < k → verM p (p.methods.getD j default) = some (ws.getD j default)) ∧ hs.length = k ∧
  wr.ownsRow B 142 3 (.slice A k c) k (riShape.cells ws hs) ∧ ∀ (j : Nat) (s : Vs) (h : (Option Addr × Nat) × (Option Addr × Nat)), ws[j]? = some s → hs[j]? = some h → riShape.inner (fun b => B ≤ b ∧ b < wr.heap.size ∧ (Value.slice A k c).ownBlock ≠ some b) wr s h
def RofPost (w : World) (Ac Am : Option Addr) (cc cm : Nat) (p : Prg) (e : Ending) (w' : World) : Prop :=
 ∃ Al n cl co Af nf cf, e = .returned (.tuple #[.agg #[.slice Ac p.classes.length cc, .slice Am p.methods.length cm, .slice Al n cl], .agg #[.int .i64 co, .slice Af nf cf]]) ∧ (co = 0 ↔ ∃ vs, Ver p vs) ∧ (∀ vs, Ver p vs → n = vs.length ∧ RdL riShape w' (fun b => w.heap.size ≤ b ∧ b < w'.heap.size) Al vs) ∧ Below w.heap.size w w'
set_option maxRecDepth 100000 in
set_option maxHeartbeats 8000000 in
theorem rof_any (Ac Am : Option Addr) (cc cm : Nat) (p : Prg) (w : World) (hr : RdP w w.heap.size Ac Am p) (hp : POk p) :
 Calls Tryz.prog 30 #[pv Ac cc Am cm p] w (RofPost w Ac Am cc cm p) := by
 have HPP : ∀ Al n cl (co : Int) Af nf cf w', (co = 0 ↔ ∃ vs, Ver p vs) → (∀ vs, Ver p vs → n = vs.length ∧ RdL riShape w' (fun b => w.heap.size ≤ b ∧ b < w'.heap.size) Al vs) → Below w.heap.size w w' → RofPost w Ac Am cc cm p (.returned (.tuple #[.agg #[.slice Ac p.classes.length cc, .slice Am p.methods.length cm, .slice Al n cl], .agg #[.int .i64 co, .slice Af nf cf]])) w' := fun Al n cl co Af nf cf w' h1 h2 h3 => ⟨Al, n, cl, co, Af, nf, cf, rfl, h1, h2, h3⟩
 have HP := Lib.hid HPP
 clear HPP
 generalize RofPost w Ac Am cc cm p = Post at *
 have HM := Lib.hid (fun W (hW : Below w.heap.size w W) => rmay_any W Ac Am cc cm p ((hr.below hW (Nat.le_refl _)).more hW.size) hp)
 have bP0 := Blk.new w 25 #[.slice Ac p.classes.length cc, .slice Am p.methods.length cm]
 have bP1 := bP0.alloc (.cells #[.slice none 0 0, .slice none 0 0, .slice none 0 0] 34)
 have bP2 := bP1.alloc (.cells #[.int .i64 0, .slice none 0 0] 75)
 have p0 := bP2.at0
 have p1 := bP2.at1
 have lP := bP2.lt
 go_enter Tryz.func30, Tryz.ntmps30
 go_wp2_with fail
 have hb2 := (((Below.refl w.heap.size w).alloc (Nat.le_refl _) (.cells #[.slice Ac p.classes.length cc, .slice Am p.methods.length cm] 25)).alloc (by simp) (.cells #[.slice none 0 0, .slice none 0 0, .slice none 0 0] 34)).alloc (by simp; omega) (.cells #[.int .i64 0, .slice none 0 0] 75)
 have bI2 := (Blk.newAt (w := w.alloc (.cells #[.slice Ac p.classes.length cc, .slice Am p.methods.length cm] 25)) (g := w.heap.size + 1) (by simp) 34 #[.slice none 0 0, .slice none 0 0, .slice none 0 0]).alloc (.cells #[.int .i64 0, .slice none 0 0] 75)
 have bF2 := Blk.newAt (w := (w.alloc (.cells #[.slice Ac p.classes.length cc, .slice Am p.methods.length cm] 25)).alloc (.cells #[.slice none 0 0, .slice none 0 0, .slice none 0 0] 34)) (g := w.heap.size + 1 + 1) (by simp) 75 #[.int .i64 0, .slice none 0 0]
 refine (HM.out _ hb2).mono ?_
 rintro e w1 ⟨Af0, nf0, cf0, rfl, -, -, hb12⟩
 have bP3 := bP2.below hb12 bP2.lt
 have bI3 := bI2.below hb12 bI2.lt
 have bF3 := bF2.below hb12 bF2.lt
 have hb3 := hb2.trans (hb12.mono hb2.size)
 clear bP0 bP1 bP2 bI2 bF2 p0 p1 lP hb2 hb12
 have p0 := bP3.at0
 have p1 := bP3.at1
 have lP := bP3.lt
 go_upto_region 4 with (fail)
 have HMt := Lib.hid (fun W (hW : Below w.heap.size w W) k (hk : k < p.methods.length) (h0 : mayP p = (0, [])) => (show Calls Tryz.prog 64 #[pv Ac cc Am cm p, .int .i64 k] W (RmetPost W (p.methods.getD k default).code.length (verM p (p.methods.getD k default))) from by
  have F := fair_of (p := p) (by rw [h0])
  have hl := head_len (F.head k hk)
  exact rmet_any Ac Am cc cm p k _ W ((hr.below hW (Nat.le_refl _)).more hW.size) hp hk rfl (by omega) hl.2.1 (by omega) (fun j hj => F.ins k hk j hj) (F.next hk) (fun j hj => eff_le (mf_le F) (re_le (F.head k hk)))))
 have Hco : Hid ((codeOf (mayP p).1 : Int) ≠ 0 → ∀ vs, ¬ Ver p vs) := Lib.hid (fun h vs hv => h (by rw [hv.fair]; rfl))
 have Hok : Hid ((codeOf (mayP p).1 : Int) = 0 → mayP p = (0, [])) := Lib.hid (fun h => may_zero h)
 obtain ⟨gf, hgf⟩ : ∃ gf, gf = w1.heap.size := ⟨_, rfl⟩
 rw [← hgf]
 have bFa := Blk.newAt (w := w1) (g := gf) hgf.symm 75 #[.int .i64 (codeOf (mayP p).1), .slice Af0 nf0 cf0]
 have hba := hb3.alloc hb3.size (.cells #[.int .i64 (codeOf (mayP p).1), .slice Af0 nf0 cf0] 75)
 have bPa := bP3.alloc (.cells #[.int .i64 (codeOf (mayP p).1), .slice Af0 nf0 cf0] 75)
 have bIa := bI3.alloc (.cells #[.int .i64 (codeOf (mayP p).1), .slice Af0 nf0 cf0] 75)
 have bRa := bF3.alloc (.cells #[.int .i64 (codeOf (mayP p).1), .slice Af0 nf0 cf0] 75)
 have hgs : (w1.alloc (.cells #[.int .i64 (codeOf (mayP p).1), .slice Af0 nf0 cf0] 75)).heap.size = gf + 1 := by simp [hgf]
 have hwg : w.heap.size + 3 ≤ gf := by have := bF3.lt; omega
 clear hgf bP3 bI3 bF3 hb3 p0 p1 lP
 generalize w1.alloc (.cells #[.int .i64 (codeOf (mayP p).1), .slice Af0 nf0 cf0] 75) = wa at *
 have bGb := Blk.newAt (w := wa) (g := gf + 1) hgs 34 #[.slice Ac p.classes.length cc, .slice Am p.methods.length cm, .slice none 0 0]
 have hbb := hba.alloc hba.size (.cells #[.slice Ac p.classes.length cc, .slice Am p.methods.length cm, .slice none 0 0] 34)
 have bPb := bPa.alloc (.cells #[.slice Ac p.classes.length cc, .slice Am p.methods.length cm, .slice none 0 0] 34)
 have bIb := bIa.alloc (.cells #[.slice Ac p.classes.length cc, .slice Am p.methods.length cm, .slice none 0 0] 34)
 have bRb := bRa.alloc (.cells #[.slice Ac p.classes.length cc, .slice Am p.methods.length cm, .slice none 0 0] 34)
 have bFb := bFa.alloc (.cells #[.slice Ac p.classes.length cc, .slice Am p.methods.length cm, .slice none 0 0] 34)
 clear bPa bIa bRa bFa hba hgs
 generalize wa.alloc (.cells #[.slice Ac p.classes.length cc, .slice Am p.methods.length cm, .slice none 0 0] 34) = wb at *
 generalize codeOf (mayP p).1 = co0 at *
 go_loopw [6] (fun iv wr => ∃ (k n c : Nat) (A : Option Addr) (co : Int) (Af : Option Addr) (nf cf : Nat), k ≤ p.methods.length ∧ iv = .int .i64 k ∧ Blk wr gf 75 #[.int .i64 co, .slice Af nf cf] ∧ Blk wr (gf + 1) 34 #[.slice Ac p.classes.length cc, .slice Am p.methods.length cm, .slice A n c] ∧ Hid (co ≠ 0 → ∀ vs, ¬ Ver p vs) ∧ Hid (co = 0 → RofOk p (gf + 2) wr k n A c) ∧ Hid (KB (fun b => b < gf) wb wr) ∧ Below w.heap.size w wr) (fun iv _ => p.methods.length - (intOf iv).toNat)
 case atStart => exact ⟨0, 0, 0, none, co0, Af0, nf0, cf0, Nat.zero_le _, rfl, bFb, bGb, Hco, Lib.hid (fun h => ⟨rfl, Hok.out h, [], [], rfl, fun j hj => by omega, rfl, World.ownsRow_nil _ _ _ _, fun j s h e => by simp at e⟩), Lib.hid (KB.refl _ _), hbb⟩
 case round =>
  clear bFb bGb hbb Hco Hok
  obtain ⟨k, n, c, A, co, Af, nf, cf, hk, rfl, bF, bG, Hbad, Hok, K, hb⟩ := hrel
  have bP := bPb.kb K.out (by omega)
  have bI := bIb.kb K.out (by omega)
  have bR := bRb.kb K.out (by omega)
  have p0 := bP.at0
  have p1 := bP.at1
  have lP := bP.lt
  have f0 := bF.at0
  have f1 := bF.at1
  have lF := bF.lt
  go_upto_region 4 with (fail)
  go_cut [22] from 13 to 23 (fun v wx => v = .bool (decide (k < p.methods.length ∧ co = 0)) ∧ wr = wx)
  case first =>
   by_cases hlt : k < p.methods.length
   · have k0 : (k : Int) < p.methods.length := by omega
     by_cases hc : co = 0
     · have g1 : (co == 0) = true := by simpa using hc
       have Hd := Lib.hid (show decide (k < p.methods.length ∧ co = 0) = true by simp [hlt, hc])
       clear hc
       go_wp2
       go_meet
       exact ⟨by rw [Hd.out], rfl⟩
     · have g1 : (co == 0) = false := by simpa using hc
       have Hd := Lib.hid (show decide (k < p.methods.length ∧ co = 0) = false by simp [hc])
       clear hc
       go_wp2
       go_meet
       exact ⟨by rw [Hd.out], rfl⟩
   · have k0 : ¬ (k : Int) < p.methods.length := by omega
     have Hd := Lib.hid (show decide (k < p.methods.length ∧ co = 0) = false by simp [hlt])
     go_wp2
     go_meet
     exact ⟨by rw [Hd.out], rfl⟩
  case rest =>
   obtain ⟨rfl, hwx⟩ := hcut
   subst hwx
   cases hd : decide (k < p.methods.length ∧ co = 0) with
   | true =>
     obtain ⟨hlt, hc0⟩ := of_decide_eq_true hd
     have hok := Hok.out hc0
     clear hd Hok Hbad hc0
     obtain ⟨hn, h0, ws, hs, hwl, hwv, hhl, own, hin⟩ := hok
     subst hn
     have H0 := Lib.hid h0
     have Hwl := Lib.hid hwl
     have Hwv := Lib.hid hwv
     have Hhl := Lib.hid hhl
     have Hin := Lib.hid hin
     have Olt := Lib.hid own.lt
     have n0 : (0 : Int) ≤ n := by omega
     clear h0 hwl hwv hhl hin
     go_wp2_with fail
     refine (HMt.out _ hb n hlt H0.out).mono ?_
     rintro e w2 ⟨gs, ge, mo, co2, Af2, nf2, cf2, rfl, hco2, hsome, hgs, hge, hbm⟩
     have Hco2 := Lib.hid hco2
     have Hsome := Lib.hid hsome
     generalize hmm : p.methods.getD n default = mm at *
     have Hmm := Lib.hid hmm
     have bP2 := bP.below hbm bP.lt
     have bI2 := bI.below hbm bI.lt
     have bR2 := bR.below hbm bR.lt
     have bF2 := bF.below hbm bF.lt
     have bG2 := bG.below hbm bG.lt
     have own2 := own_below own hbm (Nat.le_refl _)
     have hb2 := hb.trans (hbm.mono hb.size)
     have K2 := Lib.hid (K.out.below hbm (fun b h => by have := bF.lt; omega))
     have Kin2 := Lib.hid (KB.of_below (S := fun b => gf + 2 ≤ b ∧ b < wr.heap.size ∧ (Value.slice A n c).ownBlock ≠ some b) hbm (fun b h => h.2.1))
     have hzr := Lib.hid hbm.size
     have Hgr := Lib.hid bG.lt
     clear bP bI bR bF bG own hb K p0 p1 lP f0 f1 lF hmm hco2 hsome hbm
     go_upto_region 7 with (fail)
     obtain ⟨gm, hgm⟩ : ∃ gm, gm = w2.heap.size := ⟨_, rfl⟩
     rw [← hgm]
     have bM3 := (Blk.newAt (w := w2) (g := gm) hgm.symm 142 #[.slice (some ⟨ge, 0, none⟩) mm.code.length mm.code.length, .slice (some ⟨gs, 0, none⟩) mm.code.length mm.code.length, .int .i64 mo]).alloc (.cells #[.int .i64 co2, .slice Af2 nf2 cf2] 75)
     have bN3 := Blk.newAt (w := w2.alloc (.cells #[.slice (some ⟨ge, 0, none⟩) mm.code.length mm.code.length, .slice (some ⟨gs, 0, none⟩) mm.code.length mm.code.length, .int .i64 mo] 142)) (g := gm + 1) (by simp [hgm]) 75 #[.int .i64 co2, .slice Af2 nf2 cf2]
     have bF3 := (bF2.alloc (.cells #[.slice (some ⟨ge, 0, none⟩) mm.code.length mm.code.length, .slice (some ⟨gs, 0, none⟩) mm.code.length mm.code.length, .int .i64 mo] 142)).alloc (.cells #[.int .i64 co2, .slice Af2 nf2 cf2] 75)
     have bG3 := (bG2.alloc (.cells #[.slice (some ⟨ge, 0, none⟩) mm.code.length mm.code.length, .slice (some ⟨gs, 0, none⟩) mm.code.length mm.code.length, .int .i64 mo] 142)).alloc (.cells #[.int .i64 co2, .slice Af2 nf2 cf2] 75)
     have own3 := (own2.alloc (.cells #[.slice (some ⟨ge, 0, none⟩) mm.code.length mm.code.length, .slice (some ⟨gs, 0, none⟩) mm.code.length mm.code.length, .int .i64 mo] 142)).alloc (.cells #[.int .i64 co2, .slice Af2 nf2 cf2] 75)
     have hb3 := (hb2.alloc hb2.size (.cells #[.slice (some ⟨ge, 0, none⟩) mm.code.length mm.code.length, .slice (some ⟨gs, 0, none⟩) mm.code.length mm.code.length, .int .i64 mo] 142)).alloc (by simp; have := hb2.size; omega) (.cells #[.int .i64 co2, .slice Af2 nf2 cf2] 75)
     have hgl : gf + 1 < gm := by have := bG2.lt; omega
     have K3 := Lib.hid ((K2.out.alloc (fun b h => by omega) (.cells #[.slice (some ⟨ge, 0, none⟩) mm.code.length mm.code.length, .slice (some ⟨gs, 0, none⟩) mm.code.length mm.code.length, .int .i64 mo] 142)).alloc (fun b h => by simp; omega) (.cells #[.int .i64 co2, .slice Af2 nf2 cf2] 75))
     have Kin3 := Lib.hid (((KB.refl (fun b => b < gm ∧ b ≠ gf ∧ b ≠ gf + 1 ∧ (Value.slice A n c).ownBlock ≠ some b) w2).alloc (fun b h => by omega) (.cells #[.slice (some ⟨ge, 0, none⟩) mm.code.length mm.code.length, .slice (some ⟨gs, 0, none⟩) mm.code.length mm.code.length, .int .i64 mo] 142)).alloc (fun b h => by simp; omega) (.cells #[.int .i64 co2, .slice Af2 nf2 cf2] 75))
     have Hz3 := Lib.hid (show ((w2.alloc (.cells #[.slice (some ⟨ge, 0, none⟩) mm.code.length mm.code.length, .slice (some ⟨gs, 0, none⟩) mm.code.length mm.code.length, .int .i64 mo] 142)).alloc (.cells #[.int .i64 co2, .slice Af2 nf2 cf2] 75)).heap.size = gm + 2 by simp [hgm])
     have Hgm := Lib.hid hgm
     clear bF2 bG2 own2 hb2 K2 hgm bP2 bI2 bR2
     generalize (w2.alloc (.cells #[.slice (some ⟨ge, 0, none⟩) mm.code.length mm.code.length, .slice (some ⟨gs, 0, none⟩) mm.code.length mm.code.length, .int .i64 mo] 142)).alloc (.cells #[.int .i64 co2, .slice Af2 nf2 cf2] 75) = w3 at *
     have x0 := bN3.at0
     have x1 := bN3.at1
     have lN := bN3.lt
     have f0 := bF3.at0
     have f1 := bF3.at1
     have ff0 := bF3.frozen 0
     have ff1 := bF3.frozen 1
     have lF := bF3.lt
     go_upto_region 8 with (fail)
     have bM4 := (bM3.far (p := ⟨gf, 0, none⟩) (by show gm ≠ gf; omega) (.int .i64 co2)).far (p := ⟨gf, 1, none⟩) (by show gm ≠ gf; omega) (.slice Af2 nf2 cf2)
     have bG4 := (bG3.far (p := ⟨gf, 0, none⟩) (by show gf + 1 ≠ gf; omega) (.int .i64 co2)).far (p := ⟨gf, 1, none⟩) (by show gf + 1 ≠ gf; omega) (.slice Af2 nf2 cf2)
     have bF4 := (bF3.set_ 0 (.int .i64 co2)).set_ 1 (.slice Af2 nf2 cf2)
     have own4 := own_keep (own_keep own3 (grown_setCell w3 ⟨gf, 0, none⟩ (.int .i64 co2)) (.inl (blk_own_ne (g := gf) (by omega) own3))) (grown_setCell (w3.setCell ⟨gf, 0, none⟩ (.int .i64 co2)) ⟨gf, 1, none⟩ (.slice Af2 nf2 cf2)) (.inl (blk_own_ne (g := gf) (by omega) own3))
     have hb4 := (hb3.setCell (p := ⟨gf, 0, none⟩) (by show w.heap.size ≤ gf; omega) (.int .i64 co2)).setCell (p := ⟨gf, 1, none⟩) (by show w.heap.size ≤ gf; omega) (.slice Af2 nf2 cf2)
     have K4 := Lib.hid ((K3.out.set (p := ⟨gf, 0, none⟩) (by show ¬ gf < gf; omega) (.int .i64 co2)).set (p := ⟨gf, 1, none⟩) (by show ¬ gf < gf; omega) (.slice Af2 nf2 cf2))
     have Kin4 := Lib.hid ((Kin3.out.set (p := ⟨gf, 0, none⟩) (fun h => h.2.1 rfl) (.int .i64 co2)).set (p := ⟨gf, 1, none⟩) (fun h => h.2.1 rfl) (.slice Af2 nf2 cf2))
     have Hz4 := Lib.hid (show ((w3.setCell ⟨gf, 0, none⟩ (.int .i64 co2)).setCell ⟨gf, 1, none⟩ (.slice Af2 nf2 cf2)).heap.size = gm + 2 by simp [Hz3.out])
     clear bM3 bN3 bF3 bG3 own3 hb3 K3 Kin3 x0 x1 lN f0 f1 ff0 ff1 lF Hz3
     generalize (w3.setCell ⟨gf, 0, none⟩ (.int .i64 co2)).setCell ⟨gf, 1, none⟩ (.slice Af2 nf2 cf2) = w4 at *
     simp only [List.setIfInBounds_toArray, List.set_cons_zero, List.set_cons_succ] at bF4
     have y0 := bM4.at0
     have y1 := bM4.at1
     have y2 := bM4.at2
     have lM := bM4.lt
     have g2 := bG4.at2
     have lG := bG4.lt
     have hn12 : n < 1000 := by
      have F := fair_of (p := p) (by rw [H0.out])
      have := F.many
      unfold manyP at this
      omega
     have Hn12 := Lib.hid hn12
     go_wp2_with (at_builtin
                  refine wpList_append_row rfl (.tmp 33) (.tmp 35) 32 rfl (gf + 2) 142 _ 3 56 Tryz.underlying32 infoRm rfl (by omega) A c n (riShape.cells ws hs) rfl (own4.alloc _) w4.heap.size 1 1 142 [.slice (some ⟨ge, 0, none⟩) mm.code.length mm.code.length, .slice (some ⟨gs, 0, none⟩) mm.code.length mm.code.length, .int .i64 mo] rfl (Blk.new _ _ _) rfl (by intro u hu; simp at hu; rcases hu with rfl | rfl | rfl <;> rfl) (by have := Hn12.out; unfold maxLen; omega) (by have := Hn12.out; omega) (by simp; have := Hz4.out; omega) ?_
                  intro A3 c3 w5 own5 hg5 hat5
                  have bG5 := (bG4.alloc _).grown hg5 (fun e => blk_own_ne (g := gf + 1) (by omega) own4 e.symm)
                  have z0 := bG5.at0
                  have z1 := bG5.at1
                  have z2 := bG5.at2
                  have fz2 := bG5.frozen 2)
     have own4a := own4.alloc (.cells #[.slice (some ⟨ge, 0, none⟩) mm.code.length mm.code.length, .slice (some ⟨gs, 0, none⟩) mm.code.length mm.code.length, .int .i64 mo] 142)
     have hne : ∀ b, (b < gf + 2 ∨ wr.heap.size ≤ b) → (Value.slice A n c).ownBlock ≠ some b := fun b hb e => by
      have := Olt.out b e
      omega
     have hzr' := hzr.out
     have hgm' := Hgm.out
     have hz4' := Hz4.out
     have Hfn := Lib.hid (show ∀ k, k < mm.code.length → ∀ i ∈ nextF mm k, 0 ≤ i from by
      have F := fair_of (p := p) (by rw [H0.out])
      have := F.next hlt
      rwa [Hmm.out] at this)
     have Hl0 := Lib.hid (show 0 < mm.code.length from by
      have F := fair_of (p := p) (by rw [H0.out])
      have := (head_len (F.head n hlt)).2.1
      rwa [Hmm.out] at this)
     have bFz := ((bF4.alloc (.cells #[.slice (some ⟨ge, 0, none⟩) mm.code.length mm.code.length, .slice (some ⟨gs, 0, none⟩) mm.code.length mm.code.length, .int .i64 mo] 142)).grown hg5 (fun e => blk_own_ne (g := gf) (by omega) own4 e.symm)).far (p := ⟨gf + 1, 2, none⟩) (by show gf ≠ gf + 1; omega) (.slice A3 (n + 1) c3)
     have bGz := bG5.set_ 2 (.slice A3 (n + 1) c3)
     simp only [List.setIfInBounds_toArray, List.set_cons_zero, List.set_cons_succ] at bGz
     have ownz := own_keep own5 (grown_setCell w5 ⟨gf + 1, 2, none⟩ (.slice A3 (n + 1) c3)) (.inl (blk_own_ne (g := gf + 1) (by omega) own5))
     have hbz := ((hb4.alloc hb4.size (.cells #[.slice (some ⟨ge, 0, none⟩) mm.code.length mm.code.length, .slice (some ⟨gs, 0, none⟩) mm.code.length mm.code.length, .int .i64 mo] 142)).grown hg5 (by simp; have := hb4.size; omega) (fun k hk => by have := (own4a.lt k hk).1; omega)).setCell (p := ⟨gf + 1, 2, none⟩) (by show w.heap.size ≤ gf + 1; omega) (.slice A3 (n + 1) c3)
     have Kz := Lib.hid (((K4.out.alloc (fun b h => by omega) (.cells #[.slice (some ⟨ge, 0, none⟩) mm.code.length mm.code.length, .slice (some ⟨gs, 0, none⟩) mm.code.length mm.code.length, .int .i64 mo] 142)).grown hg5 (fun b h => by simp; omega) (fun b h e => hne b (.inl (by omega)) e.symm)).set (p := ⟨gf + 1, 2, none⟩) (by show ¬ gf + 1 < gf; omega) (.slice A3 (n + 1) c3))
     have Kinz := Lib.hid (((Kin4.out.alloc (fun b h => by omega) (.cells #[.slice (some ⟨ge, 0, none⟩) mm.code.length mm.code.length, .slice (some ⟨gs, 0, none⟩) mm.code.length mm.code.length, .int .i64 mo] 142)).grown hg5 (fun b h => by simp; omega) (fun b h e => h.2.2.2 e.symm)).set (p := ⟨gf + 1, 2, none⟩) (fun h => h.2.2.1 rfl) (.slice A3 (n + 1) c3))
     have Hszz := Lib.hid (show gm + 3 ≤ (w5.setCell ⟨gf + 1, 2, none⟩ (.slice A3 (n + 1) c3)).heap.size by
      have := hg5.size
      simp at this ⊢
      omega)
     have Hat := Lib.hid (show (Value.slice A3 (n + 1) c3).ownBlock = (Value.slice A n c).ownBlock ∨ (Value.slice A3 (n + 1) c3).ownBlock = some (gm + 3) by
      rcases hat5 with h | h
      · exact .inl h
      · refine .inr (h.trans (congrArg some ?_))
        simp
        omega)
     clear hat5 hg5 own5 bG5 z0 z1 z2 fz2 y0 y1 y2 g2 bM4 bG4 bF4 own4 own4a hb4 K4 Kin4
     generalize w5.setCell ⟨gf + 1, 2, none⟩ (.slice A3 (n + 1) c3) = wz at *
     go_roundw
     case rel =>
      refine ⟨n + 1, n + 1, c3, A3, co2, Af2, nf2, cf2, by omega, by go_num, bFz, bGz, Lib.hid (fun h vs hv => ?_), Lib.hid (fun h => ?_), Kz, hbz⟩
      · have h1 := hv.ver n hlt
        rw [Hmm.out] at h1
        exact h (Hco2.out.1 (by rw [h1]; rfl))
      · obtain ⟨s, hs1⟩ := Option.isSome_iff_exists.1 (Hco2.out.2 h)
        obtain ⟨hmo, bS, bE⟩ := Hsome.out s hs1
        subst hmo
        have hvok : VOk p mm s := verM_ok Hfn.out Hl0.out hs1
        have hcs := cells_snoc riShape (l := ws) (hs := hs) (by exact Hhl.out.trans Hwl.out.symm) s ((some ⟨ge, 0, none⟩, mm.code.length), (some ⟨gs, 0, none⟩, mm.code.length))
        have hcell : riShape.cell s ((some ⟨ge, 0, none⟩, mm.code.length), (some ⟨gs, 0, none⟩, mm.code.length)) = [.slice (some ⟨ge, 0, none⟩) mm.code.length mm.code.length, .slice (some ⟨gs, 0, none⟩) mm.code.length mm.code.length, .int .i64 s.most] := by
         simp only [riShape, hvok.l1, hvok.l2]
        rw [hcell] at hcs
        have hgsl := bS.lt
        have hgel := bE.lt
        have hg1 := hgs
        have hg2 := hge
        have hszz := Hszz.out
        have hgr := Hgr.out
        have hnE : ∀ b, b ≠ gf → b ≠ gf + 1 → (wr.heap.size ≤ b) → b < gm → (b < gm ∧ b ≠ gf ∧ b ≠ gf + 1 ∧ (Value.slice A n c).ownBlock ≠ some b) := fun b h1 h2 h3 h4 => ⟨h4, h1, h2, hne b (.inr h3)⟩
        have bSz := bS.kb Kinz.out (hnE gs (by omega) (by omega) (by omega) (by omega))
        have bEz := bE.kb Kinz.out (hnE ge (by omega) (by omega) (by omega) (by omega))
        have hown9 : ∀ b, (Value.slice A3 (n + 1) c3).ownBlock = some b → b < wr.heap.size ∨ b = gm + 3 := fun b e => by
         rcases Hat.out with h9 | h9
         · exact .inl (Olt.out b (by rw [← h9]; exact e)).2
         · rw [h9] at e; exact .inr (Option.some.inj e).symm
        refine ⟨rfl, H0.out, ws ++ [s], hs ++ [((some ⟨ge, 0, none⟩, mm.code.length), (some ⟨gs, 0, none⟩, mm.code.length))], by simp [Hwl.out], fun j hj => ?_, by simp [Hhl.out], ?_, fun j s' h' e1 e2 => ?_⟩
        · by_cases hjn : j < n
          · have := Hwv.out j hjn
            rw [this]
            have hl := Hwl.out
            simp [List.getD_eq_getElem?_getD, List.getElem?_append_left (show j < ws.length by omega)]
          · have ej : j = n := by omega
            subst ej
            have hl := Hwl.out
            rw [Hmm.out, hs1, List.getD_eq_getElem?_getD, List.getElem?_append_right (by omega), hl]
            simp
        · exact (congrArg (fun xs => World.ownsRow wz (gf + 2) 142 3 (.slice A3 (n + 1) c3) (n + 1) xs) hcs).mpr ownz
        · have hl := Hwl.out
          have hl2 := Hhl.out
          by_cases hj : j < n
          · rw [List.getElem?_append_left (by omega)] at e1
            rw [List.getElem?_append_left (by omega)] at e2
            refine riShape.more (riShape.keep (riShape.keep (Hin.out j s' h' e1 e2) Kin2.out.kept) (Kinz.out.kept.sub (fun b h => ⟨by omega, by omega, by omega, h.2.2⟩))) (fun b hb => ⟨hb.1, by omega, fun e => ?_⟩)
            rcases Hat.out with h9 | h9
            · exact hb.2.2 (by rw [← h9]; exact e)
            · rw [h9] at e
              have := Option.some.inj e
              omega
          · have hjk : j = n := by
             have := (List.getElem?_eq_some_iff.1 e1).1
             simp at this
             omega
            subst hjk
            rw [List.getElem?_append_right (by omega), hl] at e1
            rw [List.getElem?_append_right (by omega), hl2] at e2
            simp at e1 e2
            subst e1 e2
            refine ⟨blk_rds bEz (by simp) ⟨by omega, by omega, fun e => ?_⟩, blk_rds bSz (by simp) ⟨by omega, by omega, fun e => ?_⟩⟩
            · rcases hown9 _ e with h | h <;> omega
            · rcases hown9 _ e with h | h <;> omega
     case measure => simp [intOf]; omega
   | false =>
     have Hn := Lib.hid (of_decide_eq_false hd)
     clear hd
     go_upto_region 9 with (fail)
     refine wpJ_start (S := fun W => Blk W gf 75 #[.int .i64 co, .slice Af nf cf] ∧ Blk W (gf + 1) 34 #[.slice Ac p.classes.length cc, .slice Am p.methods.length cm, .slice A n c]) (fun q => decide (q ≤ 2)) (by kernel_rfl) ⟨bF, bG⟩ (fun HS => ?_)
     refine takeQ 0 38 rfl HS (.inl ⟨rfl, fun W hW => by have h0 := hW.2.at0; have h1 := hW.2.at1; have h2 := hW.2.at2; go_simp; rfl⟩) ?_
     simp only [pS]
     refine takeQ 1 39 rfl HS (.inl ⟨rfl, fun W hW => by have h0 := hW.1.at0; have h1 := hW.1.at1; go_simp; rfl⟩) ?_
     simp only [pS]
     have Hbad' := Hbad
     have HokF := Hok
     have i0 := bI.at0
     have i1 := bI.at1
     have i2 := bI.at2
     have fi0 := bI.frozen 0
     have fi1 := bI.frozen 1
     have fi2 := bI.frozen 2
     have lI := bI.lt
     refine stepQ 2 rfl (fun K' HK => ?_)
     clear HS
     go_simp
     have qi := fun (g : Nat) (T : TypeId) (cs : Array Value) (B : Blk wr g T cs) (hg : g ≠ w.heap.size + 1) => ((B.far (p := ⟨w.heap.size + 1, 0, none⟩) hg (.slice Ac p.classes.length cc)).far (p := ⟨w.heap.size + 1, 1, none⟩) hg (.slice Am p.methods.length cm)).far (p := ⟨w.heap.size + 1, 2, none⟩) hg (.slice A n c)
     have bF2 := qi _ _ _ bF (by omega)
     have bG2 := qi _ _ _ bG (by omega)
     have bR2 := qi _ _ _ bR (by omega)
     have bI2 := ((bI.set_ 0 (.slice Ac p.classes.length cc)).set_ 1 (.slice Am p.methods.length cm)).set_ 2 (.slice A n c)
     have hb2 := ((hb.setCell (p := ⟨w.heap.size + 1, 0, none⟩) (by show w.heap.size ≤ w.heap.size + 1; omega) (.slice Ac p.classes.length cc)).setCell (p := ⟨w.heap.size + 1, 1, none⟩) (by show w.heap.size ≤ w.heap.size + 1; omega) (.slice Am p.methods.length cm)).setCell (p := ⟨w.heap.size + 1, 2, none⟩) (by show w.heap.size ≤ w.heap.size + 1; omega) (.slice A n c)
     have K2 := Lib.hid ((((KB.refl (fun b => gf + 2 ≤ b) wr).set (p := ⟨w.heap.size + 1, 0, none⟩) (by show ¬ gf + 2 ≤ w.heap.size + 1; omega) (.slice Ac p.classes.length cc)).set (p := ⟨w.heap.size + 1, 1, none⟩) (by show ¬ gf + 2 ≤ w.heap.size + 1; omega) (.slice Am p.methods.length cm)).set (p := ⟨w.heap.size + 1, 2, none⟩) (by show ¬ gf + 2 ≤ w.heap.size + 1; omega) (.slice A n c))
     have Z2 := Lib.hid (show (((wr.setCell ⟨w.heap.size + 1, 0, none⟩ (.slice Ac p.classes.length cc)).setCell ⟨w.heap.size + 1, 1, none⟩ (.slice Am p.methods.length cm)).setCell ⟨w.heap.size + 1, 2, none⟩ (.slice A n c)).heap.size = wr.heap.size by simp)
     refine HK.out _ _ (fun _ => ⟨bF2, bG2⟩) ?_
     clear HK qi i0 i1 i2 fi0 fi1 fi2 lI f0 f1 lF p0 p1 lP bF bG bR bI bP hb K
     generalize ((wr.setCell ⟨w.heap.size + 1, 0, none⟩ (.slice Ac p.classes.length cc)).setCell ⟨w.heap.size + 1, 1, none⟩ (.slice Am p.methods.length cm)).setCell ⟨w.heap.size + 1, 2, none⟩ (.slice A n c) = w3 at *
     have r0 := bR2.at0
     have r1 := bR2.at1
     have fr0 := bR2.frozen 0
     have fr1 := bR2.frozen 1
     have lR := bR2.lt
     refine stepQ 3 rfl (fun K' HK => ?_)
     go_simp
     have bI3 := (bI2.far (p := ⟨w.heap.size + 1 + 1, 0, none⟩) (by show w.heap.size + 1 ≠ w.heap.size + 1 + 1; omega) (.int .i64 co)).far (p := ⟨w.heap.size + 1 + 1, 1, none⟩) (by show w.heap.size + 1 ≠ w.heap.size + 1 + 1; omega) (.slice Af nf cf)
     have bR3 := (bR2.set_ 0 (.int .i64 co)).set_ 1 (.slice Af nf cf)
     have hb3 := (hb2.setCell (p := ⟨w.heap.size + 1 + 1, 0, none⟩) (by show w.heap.size ≤ w.heap.size + 1 + 1; omega) (.int .i64 co)).setCell (p := ⟨w.heap.size + 1 + 1, 1, none⟩) (by show w.heap.size ≤ w.heap.size + 1 + 1; omega) (.slice Af nf cf)
     have K3 := Lib.hid ((K2.out.set (p := ⟨w.heap.size + 1 + 1, 0, none⟩) (by show ¬ gf + 2 ≤ w.heap.size + 1 + 1; omega) (.int .i64 co)).set (p := ⟨w.heap.size + 1 + 1, 1, none⟩) (by show ¬ gf + 2 ≤ w.heap.size + 1 + 1; omega) (.slice Af nf cf))
     have Z3 := Lib.hid (show ((w3.setCell ⟨w.heap.size + 1 + 1, 0, none⟩ (.int .i64 co)).setCell ⟨w.heap.size + 1 + 1, 1, none⟩ (.slice Af nf cf)).heap.size = wr.heap.size by simp [Z2.out])
     refine HK.out _ _ (fun h => by simp at h) ?_
     clear HK r0 r1 fr0 fr1 lR bF2 bG2 bR2 bI2 hb2 K2
     generalize (w3.setCell ⟨w.heap.size + 1 + 1, 0, none⟩ (.int .i64 co)).setCell ⟨w.heap.size + 1 + 1, 1, none⟩ (.slice Af nf cf) = w4 at *
     have q0 := bI3.at0
     have q1 := bI3.at1
     have q2 := bI3.at2
     have q3 := bR3.at0
     have q4 := bR3.at1
     refine wpAnyJ_done (by kernel_rfl) ?_ _
     go_wp2
     refine bodyPost_ret (v := .tuple #[.agg #[.slice Ac p.classes.length cc, .slice Am p.methods.length cm, .slice A n c], .agg #[.int .i64 co, .slice Af nf cf]]) (by simp [results, Tryz.results30, go_sem, q0, q1, q2, q3, q4]) rfl ?_
     have hall : co = 0 → ∃ (ws : List Vs) (hs : List ((Option Addr × Nat) × (Option Addr × Nat))), Ver p ws ∧ n = ws.length ∧ hs.length = ws.length ∧ wr.ownsRow (gf + 2) 142 3 (.slice A n c) n (riShape.cells ws hs) ∧ ∀ (j : Nat) (s : Vs) (h : (Option Addr × Nat) × (Option Addr × Nat)), ws[j]? = some s → hs[j]? = some h → riShape.inner (fun b => gf + 2 ≤ b ∧ b < wr.heap.size ∧ (Value.slice A n c).ownBlock ≠ some b) wr s h := fun h => by
      obtain ⟨hn, h0, ws, hs, hwl, hwv, hhl, own, hin⟩ := HokF.out h
      have hkn : k = p.methods.length := by
       have := Hn.out
       by_cases hl : k < p.methods.length
       · exact absurd ⟨hl, h⟩ this
       · omega
      exact ⟨ws, hs, ⟨h0, by omega, fun i hi => hwv i (by omega)⟩, by omega, by omega, by rw [hn]; exact own, by rw [hn]; exact hin⟩
     refine HP.out A n c co Af nf cf w4.drew ⟨fun h => ?_, fun h => ?_⟩ (fun vs hv => ?_) hb3.drew
     · obtain ⟨ws, hs, h1, -⟩ := hall h
       exact ⟨ws, h1⟩
     · obtain ⟨vs, hv⟩ := h
       exact Classical.byContradiction fun hc => Hbad'.out hc vs hv
     · have hc : co = 0 := Classical.byContradiction fun hc => Hbad'.out hc vs hv
       obtain ⟨ws, hs, h1, h2, h3, own, hin⟩ := hall hc
       have e : vs = ws := ver_inj hv h1
       subst e
       refine ⟨h2, hs, h3, ?_, fun j s h e1 e2 => ?_⟩
       · have own' := own_kb own (w' := w4.drew) (fun g hg => K3.out g (own.lt g hg).1)
         rw [← h2]
         exact (rds_own own' (S := fun b => w.heap.size ≤ b ∧ b < w4.drew.heap.size) (fun g _ h1 h2 => ⟨by omega, h2⟩))
       · exact riShape.more (riShape.keep (w' := w4.drew) (hin j s h e1 e2) (Kept.sub (S := fun b => gf + 2 ≤ b) (S' := fun b => gf + 2 ≤ b ∧ b < wr.heap.size ∧ (Value.slice A n c).ownBlock ≠ some b) (w := wr) (w' := w4.drew) K3.out.kept (fun b h => h.1))) (fun b h => ⟨by omega, by show b < w4.heap.size; rw [Z3.out]; exact h.2.1⟩)
end Go.Proofs.YtjjmpfmhggcjiaaGreatDoor
