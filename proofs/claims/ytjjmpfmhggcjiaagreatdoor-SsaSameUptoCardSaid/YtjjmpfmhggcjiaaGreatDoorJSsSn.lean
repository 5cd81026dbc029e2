/-
 SsSt, SsSn.
-/
import Derived.Test.YtjjmpfmhggcjiaaGreatDoorJSsNd
import Derived.Test.YtjjmpfmhggcjiaaGreatDoorJSsO6
set_option linter.unusedSimpArgs false
set_option linter.unusedVariables false
namespace Go.Proofs.YtjjmpfmhggcjiaaGreatDoor
open Go.RowKit Go.Maps
/-- What the rules on places stand on. -/
structure StandsIn (w : World) (S : Nat → Prop) (gc gv : Nat) (p : Prg) (vs : List Vs) (f : Fn) (gb gp gt gi gd : Nat) (blk plc idm dep : List Int) (lv dv : Value) : Prop where
 nin : NodesIn w S gc gv p vs f gb gp blk plc (.pointer (some ⟨gt, 0, none⟩)) lv dv
 bp : Blk w gp 3 ⟨ints plc⟩
 tree : TreeAt w gt gi gd f.blocks.length idm dep
 ok : TreeOk (EI (grF f)) f.blocks.length idm dep
 blocks : BlocksOk f
 nodes : nodesOk p f blk
 nb : f.blocks.length ≤ 500
 args : ∀ i, i < f.nodes.length → (ndAt f i).args.length ≤ 1000000
 lt : gt < w.heap.size ∧ gi < w.heap.size ∧ gd < w.heap.size
section
variable {w w' : World} {S : Nat → Prop} {gc gv : Nat} {p : Prg} {vs : List Vs} {f : Fn} {gb gp gt gi gd : Nat} {blk plc idm dep : List Int} {lv dv : Value}
theorem StandsIn.below (h : StandsIn w S gc gv p vs f gb gp gt gi gd blk plc idm dep lv dv) (hb : Below w.heap.size w w') : StandsIn w' S gc gv p vs f gb gp gt gi gd blk plc idm dep lv dv :=
 ⟨h.nin.below hb, h.bp.below hb h.bp.lt, h.tree.kb (KB.of_below (S := fun b => b < w.heap.size) hb (fun b h => h)) h.lt.1 h.lt.2.1 h.lt.2.2, h.ok, h.blocks, h.nodes, h.nb, h.args, ⟨Nat.lt_of_lt_of_le h.lt.1 hb.size, Nat.lt_of_lt_of_le h.lt.2.1 hb.size, Nat.lt_of_lt_of_le h.lt.2.2 hb.size⟩⟩
/-- An argument's place is one. -/
theorem StandsIn.arg (h : StandsIn w S gc gv p vs f gb gp gt gi gd blk plc idm dep lv dv) {i k : Nat} {a : Int} (hi : i < f.nodes.length) (ha : (ndAt f i).args[k]? = some a) : 0 ≤ a ∧ a < f.nodes.length := by
 obtain ⟨fm, _, h2⟩ := h.nodes i hi
 have := h2.args k a ha
 exact ⟨this.1, this.2.1⟩
/-- A phi has so many arguments as ways come to it. -/
theorem StandsIn.phi (h : StandsIn w S gc gv p vs f gb gp gt gi gd blk plc idm dep lv dv) {i : Nat} (hi : i < f.nodes.length) (h41 : (ndAt f i).op = 41) : (ndAt f i).args.length = (bkAt f (blk.getD i 0).toNat).preds.length := by
 obtain ⟨fm, h1, h2⟩ := h.nodes i hi
 have hF : formF p f blk i = if (ndAt f i).kind = sI ∨ (ndAt f i).kind = sR then some ⟨(ndAt f i).kind, repB (ndAt f i).kind (bkAt f (blk.getD i 0).toNat).preds.length, false, false, false, false⟩ else none := by
  unfold formF
  rw [h41]
  rfl
 rw [hF] at h1
 split at h1
 · rename_i hk
   cases h1
   have hl := h2.len
   simp only at hl
   rw [repB_size] at hl
   have h1 : (ndAt f i).kind.size = 1 := by rcases hk with e | e <;> rw [e] <;> rfl
   rw [h1, Nat.mul_one] at hl
   exact hl
 · cases h1
theorem above_iff {a b : Int} (hb : BlocksOk f) (a0 : 0 ≤ a) (a1 : a < f.blocks.length) (b0 : 0 ≤ b) (b1 : b < f.blocks.length) : aboveP (EI (grF f)) f.blocks.length a b ↔ Dm (EI (grF f)) a.toNat b.toNat :=
 ⟨fun h => h.2.2, fun h => ⟨⟨a0, a1, hb.reach _ (by omega)⟩, ⟨b0, b1, hb.reach _ (by omega)⟩, h⟩⟩
end
theorem quiet_above {w : World} {P : Program} {fn : FuncId} {args : Array Value} {n : Nat} {r : Bool} (h : Calls P fn args (w.drewN n) (AboveP (w.drewN n) r)) : Calls P fn args (w.drewN n) fun e w'' => e = .returned (.bool r) ∧ ∃ m, w'' = w.drewN m :=
 h.mono fun _ _ ⟨q, he, hw⟩ => ⟨he, n + q, by rw [hw, World.drewN_drewN]⟩
theorem dec_iff {P Q : Prop} (h : P ↔ Q) : dec P = dec Q := by
 by_cases hp : P
 · rw [dec_t hp, dec_t (h.1 hp)]
 · rw [dec_f hp, dec_f (fun q => hp (h.2 q))]
set_option maxRecDepth 100000 in
set_option maxHeartbeats 16000000 in
theorem stands_any {w : World} {S : Nat → Prop} {gc gv : Nat} {p : Prg} {vs : List Vs} {f : Fn} {gb gp gt gi gd : Nat} {blk plc idm dep : List Int} {lv dv : Value} (hI : StandsIn w S gc gv p vs f gb gp gt gi gd blk plc idm dep lv dv) :
 Calls Tryz.prog 44 #[.pointer (some ⟨gc, 0, none⟩)] w (DecPost w (standsOk f blk plc)) := by
 have HPt := Lib.hid (fun w' (h1 : Below w.heap.size w w') (h2 : standsOk f blk plc) => (show DecPost w (standsOk f blk plc) (.returned (.bool true)) w' from ⟨h1, .inl ⟨rfl, h2⟩⟩))
 have HPf := Lib.hid (fun w' (h1 : Below w.heap.size w w') (h2 : ¬ standsOk f blk plc) => (show DecPost w (standsOk f blk plc) (.returned (.bool false)) w' from ⟨h1, .inr ⟨rfl, h2⟩⟩))
 have HI := Lib.hid hI
 obtain ⟨Ac, cc, Am, cm, An, cn, Ab, cb, As, cs, hC⟩ := hI.nin.chk
 have c5 : w.cell? ⟨gc, 5, none⟩ = some (.slice An f.nodes.length cn) := hC.blk.cell 5
 have lC := hC.blk.lt
 have hnd := hI.nin.nd
 have HC := Lib.hid hC
 generalize DecPost w (standsOk f blk plc) = Post at *
 clear hI hC
 go_enter Tryz.func44, Tryz.ntmps44
 go_wp2
 go_loopw [13] (fun iv wr => ∃ i : Nat, i ≤ f.nodes.length ∧ iv = .int .i64 i ∧ Hid (∀ j, j < i → ∀ (k : Nat) (a : Int), (ndAt f j).args[k]? = some a → argAbv f blk plc j k a) ∧ Hid (Below w.heap.size w wr)) (fun iv _ => f.nodes.length - (intOf iv).toNat)
 case atStart => exact ⟨0, Nat.zero_le _, rfl, Lib.hid (fun j h => by omega), Lib.hid (Below.refl _ _)⟩
 case round =>
  clear c5 lC
  obtain ⟨i, hi, rfl, HO, HB0⟩ := hrel
  by_cases hlt : i < f.nodes.length
  · have i0 : (0 : Int) ≤ i := by omega
    have i1 : (i : Int) < f.nodes.length := by omega
    have hC1 := HC.out.below HB0.out
    obtain ⟨bn, on_, A1, c1n, hAn, hSn, v0, v1, v2, v3, v4, v5, v6, rr⟩ := rd_nd hC1.fn.nodes hlt
    subst hAn
    have lbn := (hC1.lt bn hSn).1
    have hal : (f.nodes.getD i default).args.length ≤ 1000000 := HI.out.args i hlt
    have hphi : (f.nodes.getD i default).op = 41 → (f.nodes.getD i default).args.length = (bkAt f (blk.getD i 0).toNat).preds.length := fun h => HI.out.phi hlt h
    obtain ⟨x, hxx⟩ : ∃ x, f.nodes.getD i default = x := ⟨_, rfl⟩
    rw [hxx] at v0 v1 v2 v3 v4 v5 v6 rr hal hphi
    have Hx := Lib.hid (show ndAt f i = x from hxx)
    obtain ⟨op, xa, xb, st, kd, xn, args⟩ := x
    simp only at v0 v1 v2 v3 v4 v5 v6 rr hal hphi
    have Hphi := Lib.hid hphi
    have hbW := HB0.out.alloc HB0.out.size (.cells #[.int .i64 op, .int .i64 xa, .int .i64 xb, .int .i64 st, .string kd, .int .i64 xn, .slice A1 args.length c1n] 59)
    have XW := Blk.new wr 59 #[.int .i64 op, .int .i64 xa, .int .i64 xb, .int .i64 st, .string kd, .int .i64 xn, .slice A1 args.length c1n]
    have HRR := Lib.hid (rr.rd (B := w.heap.size) (fun b hb => (HC.out.lt b hb).1))
    have HRW := Lib.hid (HRR.out.keep (w' := wr.alloc (.cells #[.int .i64 op, .int .i64 xa, .int .i64 xb, .int .i64 st, .string kd, .int .i64 xn, .slice A1 args.length c1n] 59)) (fun q hq => (hbW.cell hq).trans (HB0.out.cell hq).symm))
    have HIW := Lib.hid (HI.out.below hbW)
    have HCW := Lib.hid (HC.out.below hbW)
    have HbW := Lib.hid hbW
    clear hxx rr hC1 hphi hbW HRR
    go_upto_region 4 with (fail)
    obtain ⟨g4, hg4⟩ : ∃ g4, g4 = wr.heap.size := ⟨_, rfl⟩
    rw [← hg4] at XW ⊢
    clear hg4 v0 v1 v2 v3 v4 v5 v6 lbn
    generalize wr.alloc (.cells #[.int .i64 op, .int .i64 xa, .int .i64 xb, .int .i64 st, .string kd, .int .i64 xn, .slice A1 args.length c1n] 59) = w4 at *
    have x0 := XW.at0
    have x6 : w4.cell? ⟨g4, 6, none⟩ = some (.slice A1 args.length c1n) := XW.cell 6
    have lX := XW.lt
    have hib := HI.out.nin.st.blk_at hlt
    obtain ⟨bi, ki, hbi, -, ebi, -, -⟩ := hib
    have Hebi := Lib.hid ebi
    clear XW ebi
    go_wp2
    go_loopw [21] (fun jv wx => ∃ k q : Nat, k ≤ args.length ∧ jv = .int .i64 k ∧ Hid (∀ (j : Nat) (a : Int), j < k → args[j]? = some a → argAbv f blk plc i j a) ∧ wx = w4.drewN q) (fun jv _ => args.length - (intOf jv).toNat)
    case atStart => exact ⟨0, 0, Nat.zero_le _, rfl, Lib.hid (fun j a h => by omega), rfl⟩
    case round =>
     clear x6
     obtain ⟨k, q, hk, rfl, HA, rfl⟩ := hrel
     by_cases hkl : k < args.length
     · have k0 : (0 : Int) ≤ k := by omega
       have k1 : (k : Int) < args.length := by omega
       obtain ⟨a, hak⟩ : ∃ a, args[k]? = some a := ⟨_, List.getElem?_eq_getElem hkl⟩
       obtain ⟨br, orr, rfl, hbr, z0⟩ := ints_at HRW.out (k := k) hkl
       have hav : args[k]?.getD 0 = a := by rw [hak]; rfl
       rw [hav] at z0
       have hrng := HI.out.arg hlt (k := k) (a := a) (by rw [Hx.out]; exact hak)
       obtain ⟨m, rfl⟩ : ∃ m : Nat, a = m := ⟨a.toNat, by omega⟩
       have hml : m < f.nodes.length := by omega
       have HAk := Lib.hid hak
       have lbr : br < w4.heap.size := by have := HbW.out.size; omega
       have hno : ¬ argAbv f blk plc i k m → ¬ standsOk f blk plc := fun h h2 => h (h2 i hlt k m (by rw [Hx.out]; exact hak))
       have HNO := Lib.hid hno
       have hyes : argAbv f blk plc i k m → ∀ (j : Nat) (a : Int), j < k + 1 → args[j]? = some a → argAbv f blk plc i j a := fun h j a' hj hja => by
        by_cases e : j = k
        · subst e
          rw [HAk.out] at hja
          cases hja
          exact h
        · exact HA.out j a' (by omega) hja
       have HYES := Lib.hid hyes
       have dx0 : (w4.drewN q).cell? ⟨g4, 0, none⟩ = _ := x0
       have dz0 : (w4.drewN q).cell? ⟨br, orr + k, none⟩ = _ := z0
       have dlX : g4 < (w4.drewN q).heap.size := lX
       have dlb : br < (w4.drewN q).heap.size := lbr
       have HI5 := Lib.hid (HIW.out.below (below_drewN (Below.refl _ _) q))
       have HC5 := Lib.hid (HCW.out.below (below_drewN (Below.refl _ _) q))
       clear hak hav hno hyes z0 lbr
       generalize hw5 : w4.drewN q = w5 at *
       have Hw5 := Lib.hid hw5
       have Hb5 := Lib.hid (show Below w.heap.size w w5 from hw5 ▸ below_drewN HbW.out q)
       clear hw5
       by_cases h41 : op = 41
       · subst h41
         obtain ⟨bm, km, hbm, -, ebm, -, -⟩ := HI.out.nin.st.blk_at hml
         have hpl := Hphi.out rfl
         rw [Hebi.out, Int.toNat_natCast] at hpl
         have hkp : k < (bkAt f bi).preds.length := by omega
         obtain ⟨bk, ok, B1, d1, B2, d2, B3, d3, B4, d4, hAb, hSb, y0, y1, y2, y3, -, -, -, rp⟩ := rd_bk HC5.out.fn.blocks hbi
         subst hAb
         have hpr := HI.out.blocks.preds bi hbi
         have hpk : ∃ pk : Nat, (bkAt f bi).preds[k]? = some (pk : Int) ∧ pk < f.blocks.length := by
          obtain ⟨v, hv⟩ : ∃ v, (bkAt f bi).preds[k]? = some v := ⟨_, List.getElem?_eq_getElem hkp⟩
          have hmem := List.mem_of_getElem? hv
          rw [hpr] at hmem
          have := pdsTo_mem.1 hmem
          exact ⟨v.toNat, by rw [hv]; congr 1; omega, by omega⟩
         obtain ⟨pk, hpk, hpl2⟩ := hpk
         obtain ⟨bq, oq, hB4, hbq, z4⟩ := ints_at (rp.rd (B := w5.heap.size) (fun b hb => (HC5.out.lt b hb).1)) (k := k) hkp
         subst hB4
         have hpv : (bkAt f bi).preds[k]?.getD 0 = (pk : Int) := by rw [hpk]; rfl
         rw [hpv] at z4
         have c3 : w5.cell? ⟨gc, 6, none⟩ = some (.slice (some ⟨bk, ok, none⟩) f.blocks.length cb) := HC5.out.blk.cell 6
         have c8 : w5.cell? ⟨gc, 8, none⟩ = some (.slice (some ⟨gb, 0, none⟩) f.nodes.length f.nodes.length) := HC5.out.blk.cell 8
         have c10 : w5.cell? ⟨gc, 10, none⟩ = some (.pointer (some ⟨gt, 0, none⟩)) := HC5.out.blk.cell 10
         have lC5 := HC5.out.blk.lt
         have lgb := HI5.out.nin.bb.lt
         have e1 := ints_cell HI5.out.nin.bb (show m < blk.length by rw [HI.out.nin.st.l1]; exact hml)
         have e2 := ints_cell HI5.out.nin.bb (show i < blk.length by rw [HI.out.nin.st.l1]; exact hlt)
         rw [ebm] at e1
         rw [Hebi.out] at e2
         have lbk := (HC5.out.lt bk hSb).1
         have hab : argAbv f blk plc i k m ↔ Dm (EI (grF f)) bm pk := by
          unfold argAbv
          rw [Hx.out, if_pos rfl, Hebi.out, Int.toNat_natCast, Int.toNat_natCast, ebm, Int.toNat_natCast, List.getD_eq_getElem?_getD, hpv, Int.toNat_natCast]
         have hrr : aboveB (EI (grF f)) f.blocks.length bm pk = dec (Dm (EI (grF f)) bm pk) := dec_iff (by
          have := above_iff (f := f) (a := bm) (b := pk) HI.out.blocks (by omega) (by omega) (by omega) (by omega)
          simpa using this)
         have HAB := Lib.hid (fun n => quiet_above (r := dec (Dm (EI (grF f)) bm pk)) (by rw [← hrr]; exact above_any HI5.out.ok (by have := HI.out.nb; omega) (HI5.out.tree.drewN n) (bm : Int) (pk : Int)))
         have p0 : (0 : Int) ≤ bi := by omega
         have p1 : (bi : Int) < f.blocks.length := by omega
         have p2 : (m : Int) < f.nodes.length := by omega
         have p3 : (0 : Int) ≤ m := by omega
         have p4 : (k : Int) < (bkAt f bi).preds.length := by omega
         have Hab := Lib.hid hab
         clear rp y0 y1 y2 hpr hpk hpv ebm hab hrr hkp hpl
         generalize (f.blocks.getD bi default).preds.length = np at *
         cases hd : dec (Dm (EI (grF f)) bm pk) with
         | true =>
           have HA2 := Lib.hid (HYES.out (Hab.out.2 (dec_p hd)))
           rw [hd] at HAB
           clear hd
           go_wp2
           go_quiet ((go_at_call 93; exact HAB.out _))
           rename Nat => q2
           go_wp2
           go_roundw
           case rel => exact ⟨k + 1, q + q2, by omega, by go_num, HA2, by rw [← Hw5.out]; exact World.drewN_drewN _ _ _⟩
           case measure => simp [intOf]; omega
         | false =>
           have HN2 := Lib.hid (HNO.out (fun h => dec_n hd (Hab.out.1 h)))
           rw [hd] at HAB
           clear hd
           go_wp2
           go_quiet ((go_at_call 93; exact HAB.out _))
           rename Nat => q2
           go_wp2
           exact HPf.out _ (below_drewN Hb5.out _) HN2.out
       · have g41 : (op == 41) = false := by simpa using h41
         have g41' : (op != 41) = true := by simpa using h41
         have hrr : abvB (EI (grF f)) f.blocks.length blk plc m i = dec (argAbv f blk plc i k m) := dec_iff (by
          obtain ⟨bm, km, hbm, -, ebm, -, -⟩ := HI.out.nin.st.blk_at hml
          unfold argAbv abvN
          rw [Hx.out]
          simp only
          rw [if_neg h41, Int.toNat_natCast, ebm, Hebi.out]
          have := above_iff (f := f) (a := bm) (b := bi) HI.out.blocks (by omega) (by omega) (by omega) (by omega)
          by_cases e : (bm : Int) = bi
          · rw [if_pos e, if_pos e]
          · rw [if_neg e, if_neg e]; exact this)
         have HAB := Lib.hid (fun n => quiet_above (r := dec (argAbv f blk plc i k m)) (by rw [← hrr]; exact chkAbove_any HI5.out.ok (by have := HI.out.nb; omega) (HI5.out.tree.drewN n) (HC5.out.blk.cell 8) (HC5.out.blk.cell 9) (HC5.out.blk.cell 10) HI5.out.nin.bb HI5.out.bp HI.out.nin.st.l1 HI.out.nin.st.l2 m i hml hlt))
         clear hrr h41
         cases hd : dec (argAbv f blk plc i k m) with
         | true =>
           have HA2 := Lib.hid (HYES.out (dec_p hd))
           rw [hd] at HAB
           clear hd
           go_wp2
           go_quiet ((go_at_call 95; exact HAB.out _))
           rename Nat => q2
           go_wp2
           go_roundw
           case rel => exact ⟨k + 1, q + q2, by omega, by go_num, HA2, by rw [← Hw5.out]; exact World.drewN_drewN _ _ _⟩
           case measure => simp [intOf]; omega
         | false =>
           have HN2 := Lib.hid (HNO.out (fun h => dec_n hd h))
           rw [hd] at HAB
           clear hd
           go_wp2
           go_quiet ((go_at_call 95; exact HAB.out _))
           rename Nat => q2
           go_wp2
           exact HPf.out _ (below_drewN Hb5.out _) HN2.out
     · have e : k = args.length := by omega
       have hge : ¬ (k : Int) < args.length := by omega
       have HO2 := Lib.hid (show ∀ j, j < i + 1 → ∀ (k : Nat) (a : Int), (ndAt f j).args[k]? = some a → argAbv f blk plc j k a from fun j hj k' a' h => by
        by_cases e2 : j = i
        · subst e2
          rw [Hx.out] at h
          exact HA.out k' a' (by have := (List.getElem?_eq_some_iff.1 h).1; simp only at this; omega) h
        · exact HO.out j (by omega) k' a' h)
       clear hkl e
       go_wp2
       go_roundw
       case rel => exact ⟨i + 1, by omega, by go_num, HO2, Lib.hid (below_drewN HbW.out _)⟩
       case measure => simp [intOf]; omega
  · obtain rfl : i = f.nodes.length := by omega
    have hge : ¬ (f.nodes.length : Int) < f.nodes.length := by omega
    clear hlt
    go_wp2
    exact HPt.out _ HB0.out (fun j hj => HO.out j hj)
end Go.Proofs.YtjjmpfmhggcjiaaGreatDoor
namespace Go.Proofs.YtjjmpfmhggcjiaaGreatDoor
open Go.RowKit Go.Maps
/-- The states that nodes have are noted. -/
theorem ChkAt.direct {w : World} {S : Nat → Prop} {gc gv : Nat} {p : Prg} {vs : List Vs} {f : Fn} {Ac Am An Ab As : Option Addr} {cc cm cn cb cs : Nat} {bv qv tv lv dv : Value} (h : ChkAt w S gc gv p vs f Ac cc Am cm An cn Ab cb As cs bv qv tv lv dv) (v : Value) : ChkAt (w.setCell ⟨gc, 12, none⟩ v) S gc gv p vs f Ac cc Am cm An cn Ab cb As cs bv qv tv lv v := by
 have hk : KB (fun b => S b ∨ b = gv) w (w.setCell ⟨gc, 12, none⟩ v) := (KB.refl _ w).set (by
  show ¬ (S gc ∨ gc = gv)
  rintro (hs | e)
  · exact (h.lt gc hs).2.1 rfl
  · exact h.gv.2 e.symm) v
 have hk' : Kept S w (w.setCell ⟨gc, 12, none⟩ v) := (hk.sub (fun b hb => .inl hb)).kept
 have b := h.blk.set_ 12 v
 simp only [List.setIfInBounds_toArray, List.set_cons_zero, List.set_cons_succ] at b
 exact ⟨b, h.prg.keep hk', h.fn.keep hk', h.inf.kb hk (by simp), fun b hs => ⟨by simpa using (h.lt b hs).1, (h.lt b hs).2⟩, ⟨by simpa using h.gv.1, h.gv.2⟩, h.cap⟩
def StNonePost (w : World) (gc : Nat) (e : Ending) (w' : World) : Prop := e = .returned (.bool true) ∧ w.grownBy w' (some gc)
set_option maxRecDepth 100000 in
set_option maxHeartbeats 8000000 in
theorem states_none {w : World} {S : Nat → Prop} {gc gv : Nat} {p : Prg} {vs : List Vs} {f : Fn} {bv qv tv lv dv : Value} (hC : Chk w S gc gv p vs f bv qv tv lv dv) (hN : f.nodes.length ≤ 4000) (hS : f.states.length ≤ 4000) (hst : ∀ i, i < f.nodes.length → (ndAt f i).st = -1) :
 Calls Tryz.prog 45 #[.pointer (some ⟨gc, 0, none⟩)] w (StNonePost w gc) := by
 have HP := Lib.hid (fun w' (h : w.grownBy w' (some gc)) => (show StNonePost w gc (.returned (.bool true)) w' from ⟨rfl, h⟩))
 obtain ⟨Ac, cc, Am, cm, An, cn, Ab, cb, As, cs, hC⟩ := hC
 have hm2 := fun W => run_make_row' (P := Tryz.prog) 92 4 (.bool false) 1 Tryz.underlying92 infoBoolV rfl .i64 .i64 f.states.length (by omega) (by omega) W
 rw [made_bools] at hm2
 have ea : (⟨(List.replicate f.states.length false).map Value.bool⟩ : Array Value) = Array.replicate f.states.length (Value.bool false) := by simp
 rw [ea] at hm2
 have c7 : w.cell? ⟨gc, 7, none⟩ = some (.slice As f.states.length cs) := hC.blk.cell 7
 have lC := hC.blk.lt
 have hC1 := hC.kb (KB.of_below ((Below.refl w.heap.size w).alloc (Nat.le_refl _) (.cells (Array.replicate f.states.length (Value.bool false)) 4)) (fun b hb => hb.elim (fun h => (hC.lt b h).1) (fun h => h.elim (fun e => e ▸ hC.gv.1) (fun e => e ▸ hC.blk.lt)))) (by simp)
 have bD := Blk.new w 4 (Array.replicate f.states.length (Value.bool false))
 have hg1 := World.grownBy_alloc w (.cells (Array.replicate f.states.length (Value.bool false)) 4) (some gc)
 have c12 : World.cell? _ ⟨gc, 12, none⟩ = some dv := hC1.blk.cell 12
 have f12 := hC1.blk.frozen 12
 have lC1 := hC1.blk.lt
 have Hst := Lib.hid hst
 generalize StNonePost w gc = Post at *
 clear hst
 go_enter Tryz.func45, Tryz.ntmps45
 go_upto_region 2 with (fail)
 have hzs : (w.setCell ⟨gc, 12, none⟩ (.slice (some ⟨w.heap.size, 0, none⟩) f.states.length f.states.length)).heap.size = w.heap.size := by simp
 have hC1' := hC.direct (.slice (some ⟨w.heap.size, 0, none⟩) f.states.length f.states.length)
 have hC2 := hC1'.kb (KB.of_below ((Below.refl _ _).alloc (Nat.le_refl _) (.cells (Array.replicate f.states.length (Value.bool false)) 4)) (fun b hb => hb.elim (fun h => (hC1'.lt b h).1) (fun h => h.elim (fun e => e ▸ hC1'.gv.1) (fun e => e ▸ hC1'.blk.lt)))) (by simp)
 have bD2 := Blk.newAt hzs 4 (Array.replicate f.states.length (Value.bool false))
 have hg2 := (grown_setCell w ⟨gc, 12, none⟩ (.slice (some ⟨w.heap.size, 0, none⟩) f.states.length f.states.length)).trans (World.grownBy_alloc _ (.cells (Array.replicate f.states.length (Value.bool false)) 4) (some gc))
 clear hC1 hC1' bD hg1 c12 f12 lC1 c7 lC hzs
 obtain ⟨gd, hgd⟩ : ∃ gd, gd = w.heap.size := ⟨_, rfl⟩
 rw [← hgd] at hC2 bD2 hg2 ⊢
 clear hgd
 generalize (w.setCell ⟨gc, 12, none⟩ (.slice (some ⟨gd, 0, none⟩) f.states.length f.states.length)).alloc (.cells (Array.replicate f.states.length (Value.bool false)) 4) = w2 at *
 have HC2 := Lib.hid hC2
 rw [← ea] at bD2
 have HD2 := Lib.hid bD2
 clear ea
 have HG2 := Lib.hid hg2
 have c5 : w2.cell? ⟨gc, 5, none⟩ = some (.slice An f.nodes.length cn) := hC2.blk.cell 5
 have lC2 := hC2.blk.lt
 clear hC hC2 bD2 hg2
 go_wp2
 go_loopw [25] (fun iv wr => ∃ i : Nat, i ≤ f.nodes.length ∧ iv = .int .i64 i ∧ Hid (Below w2.heap.size w2 wr)) (fun iv _ => f.nodes.length - (intOf iv).toNat)
 case atStart => exact ⟨0, Nat.zero_le _, rfl, Lib.hid (Below.refl _ _)⟩
 case round =>
  clear c5 lC2
  obtain ⟨i, hi, rfl, HB⟩ := hrel
  by_cases hlt : i < f.nodes.length
  · have i0 : (0 : Int) ≤ i := by omega
    have i1 : (i : Int) < f.nodes.length := by omega
    have hC3 := HC2.out.below HB.out
    obtain ⟨bn, on_, A1, c1n, hAn, hSn, v0, v1, v2, v3, v4, v5, v6, -⟩ := rd_nd hC3.fn.nodes hlt
    subst hAn
    have hs1 : (f.nodes.getD i default).st = -1 := Hst.out i hlt
    rw [hs1] at v3
    have lbn := (hC3.lt bn hSn).1
    generalize f.nodes.getD i default = x at *
    have HB2 := Lib.hid (HB.out.alloc HB.out.size (.cells #[.int .i64 x.op, .int .i64 x.a, .int .i64 x.b, .int .i64 (-1), .string x.kind, .int .i64 x.n, .slice A1 x.args.length c1n] 59))
    clear hs1 hC3
    go_wp2
    go_roundw
    case rel => exact ⟨i + 1, by omega, by go_num, HB2⟩
    case measure => simp [intOf]; omega
  · have e : i = f.nodes.length := by omega
    have hge : ¬ (i : Int) < f.nodes.length := by omega
    have c12 : wr.cell? ⟨gc, 12, none⟩ = some (.slice (some ⟨gd, 0, none⟩) f.states.length f.states.length) := (HC2.out.below HB.out).blk.cell 12
    have lC3 := (HC2.out.below HB.out).blk.lt
    clear hlt e
    go_wp2
    go_loopw [45] (fun iv wx => ∃ j : Nat, j ≤ f.states.length ∧ iv = .int .i64 j ∧ wx = wr) (fun iv _ => f.states.length - (intOf iv).toNat)
    case atStart => exact ⟨0, Nat.zero_le _, rfl, rfl⟩
    case round =>
     clear c12 lC3
     obtain ⟨j, hj, rfl, rfl⟩ := hrel
     by_cases hjl : j < f.states.length
     · have j0 : (0 : Int) ≤ j := by omega
       have j1 : (j : Int) < f.states.length := by omega
       have y := bls_cell (HD2.out.below HB.out HD2.out.lt) (show j < (List.replicate f.states.length false).length by simpa using hjl)
       rw [show (List.replicate f.states.length false).getD j false = false by simp [List.getD_eq_getElem?_getD, hjl]] at y
       have ly := (HD2.out.below HB.out HD2.out.lt).lt
       go_wp2
       go_roundw
       case rel => exact ⟨j + 1, by omega, by go_num, trivial⟩
       case measure => simp [intOf]; omega
     · have e : j = f.states.length := by omega
       have hge2 : ¬ (j : Int) < f.states.length := by omega
       have c5 : wr.cell? ⟨gc, 5, none⟩ = some (.slice An f.nodes.length cn) := (HC2.out.below HB.out).blk.cell 5
       have lC3 := (HC2.out.below HB.out).blk.lt
       clear hjl e
       go_wp2
       go_loopw [69] (fun iv wx => ∃ i : Nat, i ≤ f.nodes.length ∧ iv = .int .i64 i ∧ Hid (Below w2.heap.size w2 wx)) (fun iv _ => f.nodes.length - (intOf iv).toNat)
       case atStart => exact ⟨0, Nat.zero_le _, rfl, HB⟩
       case round =>
        clear c5 lC3 HB
        obtain ⟨i, hi, rfl, HB⟩ := hrel
        by_cases hlt : i < f.nodes.length
        · have i0 : (0 : Int) ≤ i := by omega
          have i1 : (i : Int) < f.nodes.length := by omega
          have hC3 := HC2.out.below HB.out
          obtain ⟨bn, on_, A1, c1n, hAn, hSn, v0, v1, v2, v3, v4, v5, v6, -⟩ := rd_nd hC3.fn.nodes hlt
          subst hAn
          have hs1 : (f.nodes.getD i default).st = -1 := Hst.out i hlt
          rw [hs1] at v3
          have lbn := (hC3.lt bn hSn).1
          generalize f.nodes.getD i default = x at *
          have HB2 := Lib.hid (HB.out.alloc HB.out.size (.cells #[.int .i64 x.op, .int .i64 x.a, .int .i64 x.b, .int .i64 (-1), .string x.kind, .int .i64 x.n, .slice A1 x.args.length c1n] 59))
          clear hs1 hC3
          go_wp2
          go_roundw
          case rel => exact ⟨i + 1, by omega, by go_num, HB2⟩
          case measure => simp [intOf]; omega
        · have e : i = f.nodes.length := by omega
          have hge3 : ¬ (i : Int) < f.nodes.length := by omega
          have HGf := Lib.hid (HG2.out.trans (grown_of_below HB.out (Nat.le_refl _) (some gc)))
          clear hlt e
          go_wp2
          exact HP.out _ HGf.out
end Go.Proofs.YtjjmpfmhggcjiaaGreatDoor
