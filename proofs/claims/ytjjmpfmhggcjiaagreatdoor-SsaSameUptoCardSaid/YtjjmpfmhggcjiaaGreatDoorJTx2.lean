/-
 Tx2.
-/
import Derived.Test.YtjjmpfmhggcjiaaGreatDoorJTx1
import Derived.Test.YtjjmpfmhggcjiaaGreatDoorJLt
set_option linter.unusedSimpArgs false
set_option linter.unusedVariables false
namespace Go.Proofs.YtjjmpfmhggcjiaaGreatDoor
open Go.RowKit Go.Maps
theorem lit_rd {w : World} {B b g : Nat} {l : List Int} (h : Blk w g 3 ⟨ints l⟩) (hb : g ≠ b) : Hid (∀ W, Below B w W → KeepsWr b w W → Rd W W.heap.size 1 (some ⟨g, 0, none⟩) l.length (ints l)) :=
 Lib.hid (fun W _ hk => by
  have h2 := h.wr hk hb (by decide)
  exact Blk.rd h2 (by simp [ints]) h2.lt)
theorem in_rd {w0 w : World} {S : Nat → Prop} {B b : Nat} {A : Option Addr} {l : List Int} (h : RdS w0 S 1 A l.length (ints l)) (hS : ∀ b, S b → b < B) (hb : Below B w0 w) (hB : B ≤ w.heap.size) : Hid (∀ W, Below B w W → KeepsWr b w W → Rd W W.heap.size 1 A l.length (ints l)) :=
 Lib.hid (fun W hW _ => (h.keep (Kept.of_below (hb.trans hW) hS)).rd (fun b hs => Nat.lt_of_lt_of_le (hS b hs) (Nat.le_trans hB hW.size)))
/-- Numbers are numbers. -/
structure FnI (f : Fn) : Prop where
 top : I64 f.mth ∧ I64 f.entry
 nd : ∀ k, let x := f.nodes.getD k default; (I64 x.op ∧ I64 x.a ∧ I64 x.b ∧ I64 x.st ∧ I64 x.n) ∧ (∀ y ∈ x.args, I64 y) ∧ x.kind.size ≤ 1000000000
 bk : ∀ k, let x := f.blocks.getD k default; (∀ y ∈ x.phis, I64 y) ∧ (∀ y ∈ x.body, I64 y) ∧ (∀ y ∈ x.succ, I64 y) ∧ (∀ y ∈ x.preds, I64 y)
 st : ∀ k, let x := f.states.getD k default; (I64 x.mth ∧ I64 x.pc ∧ I64 x.up) ∧ (∀ y ∈ x.locals, I64 y) ∧ (∀ y ∈ x.stack, I64 y) ∧ ∀ j, I64 (x.virts.getD j default).cls ∧ ∀ y ∈ (x.virts.getD j default).fields, I64 y
theorem flat_take {α : Type} [Inhabited α] (g : α → List UInt8) (l : List α) (k : Nat) (hk : k < l.length) : (l.take (k + 1)).flatMap g = (l.take k).flatMap g ++ g (l.getD k default) ∧ ((l.take k).flatMap g).length + (g (l.getD k default)).length ≤ (l.flatMap g).length := by
 have e1 : (l.take (k + 1)).flatMap g = (l.take k).flatMap g ++ g (l.getD k default) := by
  rw [List.take_succ_eq_append_getElem hk, List.flatMap_append]
  simp [hk]
 refine ⟨e1, ?_⟩
 have e2 : l.flatMap g = (l.take (k + 1)).flatMap g ++ (l.drop (k + 1)).flatMap g := by rw [← List.flatMap_append, List.take_append_drop]
 rw [e2, e1]
 simp only [List.length_append]
 omega
def TextPost (T : Lib.PrintTabs) (w : World) (f : Fn) (e : Ending) (w' : World) : Prop := e = .returned (.string ⟨(textL T f).toArray⟩) ∧ Below w.heap.size w w'
def cA (f : Fn) : List UInt8 := kB kFun ++ numsL [f.mth, f.entry]
def cN (T : Lib.PrintTabs) (f : Fn) (k : Nat) : List UInt8 := cA f ++ (f.nodes.take k).flatMap (ndL T)
def cB (T : Lib.PrintTabs) (f : Fn) (k : Nat) : List UInt8 := cN T f f.nodes.length ++ (f.blocks.take k).flatMap bkL
def cS (T : Lib.PrintTabs) (f : Fn) (k : Nat) : List UInt8 := cB T f f.blocks.length ++ (f.states.take k).flatMap steL
theorem cS_all (T : Lib.PrintTabs) (f : Fn) : cS T f f.states.length = textL T f := by
 unfold cS cB cN cA textL
 rw [List.take_of_length_le (Nat.le_refl _), List.take_of_length_le (Nat.le_refl _), List.take_of_length_le (Nat.le_refl _)]
 simp
theorem c_len (T : Lib.PrintTabs) (f : Fn) : (cA f).length + ((f.nodes.flatMap (ndL T)).length + ((f.blocks.flatMap bkL).length + (f.states.flatMap steL).length)) = (textL T f).length := by
 unfold cA textL
 simp only [List.length_append]
 omega
theorem cN_len (T : Lib.PrintTabs) (f : Fn) (k : Nat) (hk : k < f.nodes.length) : cN T f (k + 1) = cN T f k ++ ndL T (f.nodes.getD k default) ∧ (cN T f k).length + (ndL T (f.nodes.getD k default)).length ≤ (textL T f).length := by
 obtain ⟨e, h⟩ := flat_take (ndL T) f.nodes k hk
 unfold cN
 refine ⟨by rw [e]; simp, ?_⟩
 rw [← c_len]
 simp only [List.length_append]
 omega
theorem cB_len (T : Lib.PrintTabs) (f : Fn) (k : Nat) (hk : k < f.blocks.length) : cB T f (k + 1) = cB T f k ++ bkL (f.blocks.getD k default) ∧ (cB T f k).length + (bkL (f.blocks.getD k default)).length ≤ (textL T f).length := by
 obtain ⟨e, h⟩ := flat_take bkL f.blocks k hk
 unfold cB cN
 refine ⟨by rw [e]; simp, ?_⟩
 rw [← c_len, List.take_of_length_le (Nat.le_refl _)]
 simp only [List.length_append]
 omega
theorem cS_len (T : Lib.PrintTabs) (f : Fn) (k : Nat) (hk : k < f.states.length) : cS T f (k + 1) = cS T f k ++ steL (f.states.getD k default) ∧ (cS T f k).length + (steL (f.states.getD k default)).length ≤ (textL T f).length := by
 obtain ⟨e, h⟩ := flat_take steL f.states k hk
 unfold cS cB cN
 refine ⟨by rw [e]; simp, ?_⟩
 rw [← c_len, List.take_of_length_le (Nat.le_refl _), List.take_of_length_le (Nat.le_refl _)]
 simp only [List.length_append]
 omega
set_option maxRecDepth 100000 in
set_option maxHeartbeats 8000000 in
theorem text_any (T : Lib.PrintTabs) (An Ab As : Option Addr) (cn cb cs : Nat) (f : Fn) (w : World) (hF : RdF w (fun b => b < w.heap.size) An Ab As f) (hT : Tabs T w) (hm : Mild f) (hi : FnI f) (hlen : (textL T f).length ≤ 100000000000)
 (ln : f.nodes.length ≤ 2000000) (lb : f.blocks.length ≤ 2000000) (ls : f.states.length ≤ 2000000) :
 Calls Tryz.prog 27 #[.agg #[.int .i64 f.mth, .int .i64 f.entry, .slice An f.nodes.length cn, .slice Ab f.blocks.length cb, .slice As f.states.length cs]] w (TextPost T w f) := by
 have HP := Lib.hid (fun w' (h2 : Below w.heap.size w w') => (show TextPost T w f (.returned (.string ⟨(textL T f).toArray⟩)) w' from ⟨rfl, h2⟩))
 generalize hPo : TextPost T w f = Post at *
 clear hPo
 have HF := Lib.hid hF
 have HM := Lib.hid hm
 have HI := Lib.hid hi
 have HL := Lib.hid hlen
 have HT := Lib.hid (fun W (h : Below w.heap.size w W) => hT.below h)
 clear hF hm hi hlen hT
 have bI := (Blk.new w 30 #[.int .i64 f.mth, .int .i64 f.entry, .slice An f.nodes.length cn, .slice Ab f.blocks.length cb, .slice As f.states.length cs]).alloc (.cells #[.pointer none, .slice none 0 0] 128)
 have bW := Blk.newAt (w := w.alloc (.cells #[.int .i64 f.mth, .int .i64 f.entry, .slice An f.nodes.length cn, .slice Ab f.blocks.length cb, .slice As f.states.length cs] 30)) (g := w.heap.size + 1) (by simp) 128 #[.pointer none, .slice none 0 0]
 have hb := ((Below.refl w.heap.size w).alloc (Nat.le_refl _) (.cells #[.int .i64 f.mth, .int .i64 f.entry, .slice An f.nodes.length cn, .slice Ab f.blocks.length cb, .slice As f.states.length cs] 30)).alloc (by simp) (.cells #[.pointer none, .slice none 0 0] 128)
 have hz : ((w.alloc (.cells #[.int .i64 f.mth, .int .i64 f.entry, .slice An f.nodes.length cn, .slice Ab f.blocks.length cb, .slice As f.states.length cs] 30)).alloc (.cells #[.pointer none, .slice none 0 0] 128)).heap.size = w.heap.size + 2 := by simp
 go_enter Tryz.func27, Tryz.ntmps27
 go_upto_region 2 with (fail)
 generalize (w.alloc (.cells #[.int .i64 f.mth, .int .i64 f.entry, .slice An f.nodes.length cn, .slice Ab f.blocks.length cb, .slice As f.states.length cs] 30)).alloc (.cells #[.pointer none, .slice none 0 0] 128) = w2 at *
 have HW := Lib.hid (show WrL w.heap.size (w.heap.size + 1) [] w2 from ⟨_, .inl rfl, by omega, _, bW, World.ownsRow_nil _ _ _ _, by simp [Value.ownBlock]⟩)
 have HZ := Lib.hid (show w.heap.size + 2 ≤ w2.heap.size by omega)
 clear bW hz
 have y0 := bI.at0
 have y1 := bI.at1
 have lI := bI.lt
 have hA := (Below.refl w2.heap.size w2).alloc (Nat.le_refl _) (.cells #[.int .i64 f.mth, .int .i64 f.entry] 3)
 have hbA := hb.alloc hb.size (.cells #[.int .i64 f.mth, .int .i64 f.entry] 3)
 have bRow := Blk.new w2 3 #[.int .i64 f.mth, .int .i64 f.entry]
 have Hn := Lib.hid (nums_any (T := T) (B := w.heap.size) (b := w.heap.size + 1) (L := ([] : List UInt8)) ⟨#[102, 117, 110, 99, 116, 105, 111, 110]⟩ (some ⟨w2.heap.size, 0, none⟩) 2 [f.mth, f.entry] (w2.alloc (.cells #[.int .i64 f.mth, .int .i64 f.entry] 3)) (HW.out.keep hA) hbA.size (Lib.hid (fun W' h => HT.out W' (hbA.trans h))) (lit_rd (l := [f.mth, f.entry]) bRow (by have := HZ.out; omega)) (by have := HI.out.top; intro x hx; simp at hx; rcases hx with rfl | rfl; exact this.1; exact this.2) (by simp) (by have h1 := HL.out; have h2 := c_len T f; unfold cA at h2; simp only [List.length_append, List.length_nil] at h2 ⊢; have h3 : (kB kFun).length = 8 := rfl; have h4 : (⟨#[102, 117, 110, 99, 116, 105, 111, 110]⟩ : ByteArray).size = 8 := rfl; omega))
 go_wp2_with fail
 refine Hn.out.mono ?_
 rintro e v1 ⟨rfl, hW, hbn, hkn⟩
 have hb := hbA.trans hbn
 have hkx := (KeepsWr.below hA).trans hkn
 clear hA hbA bRow
 have HW := Lib.hid (show WrL w.heap.size (w.heap.size + 1) (([] : List UInt8) ++ (kB kFun ++ numsL [f.mth, f.entry])) v1 from hW)
 have HZ := Lib.hid (show w.heap.size + 2 ≤ v1.heap.size from Nat.le_trans HZ.out hkx.size)
 have bI := bI.wr hkx (by omega) (by decide)
 clear Hn hW hbn hkn hkx
 clear y0 y1 lI
 have HW := Lib.hid (show WrL w.heap.size (w.heap.size + 1) (cN T f 0) v1 from by have := HW.out; simpa [cN, cA] using this)
 have y2 := bI.at2
 have lI := bI.lt
 go_wp2
 clear y2 lI
 go_loopw [24] (fun iv wr => ∃ k : Nat, k ≤ f.nodes.length ∧ iv = .int .i64 k ∧ Hid (WrL w.heap.size (w.heap.size + 1) (cN T f k) wr) ∧ Blk wr w.heap.size 30 #[.int .i64 f.mth, .int .i64 f.entry, .slice An f.nodes.length cn, .slice Ab f.blocks.length cb, .slice As f.states.length cs] ∧ Hid (w.heap.size + 2 ≤ wr.heap.size) ∧ Below w.heap.size w wr) (fun iv _ => f.nodes.length - (intOf iv).toNat)
 case atStart => exact ⟨0, Nat.zero_le _, rfl, HW, bI, HZ, hb⟩
 case round =>
  clear HW bI HZ hb
  obtain ⟨k, hk, rfl, HW, bI, HZ, hb⟩ := hrel
  by_cases hlt : k < f.nodes.length
  · have k0 : (0 : Int) ≤ k := by omega
    have k1 : (k : Int) < f.nodes.length := by omega
    obtain ⟨b, off, A1, c1, rfl, hbb, x0, x1, x2, x3, x4, x5, x6, r1⟩ := rd_nd (HF.out.nodes.below hb (fun _ h => h)) hlt
    have r1 := r1.keep (w' := w) (fun p hp => (hb.cell hp).symm)
    have HIx := Lib.hid (HI.out.nd k)
    have ha := HM.out.args k
    have HC := Lib.hid (cN_len T f k hlt)
    generalize f.nodes.getD k default = x at *
    have Hb := Lib.hid (Nat.le_trans HC.out.2 HL.out)
    have Hlx := Lib.hid (show (ndL T x).length = 5 + ((numsL [x.op, x.a, x.b, x.st]).length + ((1 + ((quoteL T x.kind).length + (1 + (Lib.itoa x.n).length))) + (1 + (numsL x.args).length))) from by
     unfold ndL
     simp only [List.length_append, List.length_cons, List.length_nil, show (kB kNode).length = 5 from rfl]
     omega)
    go_upto_region 6 with (fail)
    have bX := Blk.new wr 59 #[.int .i64 x.op, .int .i64 x.a, .int .i64 x.b, .int .i64 x.st, .string x.kind, .int .i64 x.n, .slice A1 x.args.length c1]
    have hA := (Below.refl wr.heap.size wr).alloc (Nat.le_refl _) (.cells #[.int .i64 x.op, .int .i64 x.a, .int .i64 x.b, .int .i64 x.st, .string x.kind, .int .i64 x.n, .slice A1 x.args.length c1] 59)
    have HW := Lib.hid (HW.out.keep hA)
    have bI := bI.alloc (.cells #[.int .i64 x.op, .int .i64 x.a, .int .i64 x.b, .int .i64 x.st, .string x.kind, .int .i64 x.n, .slice A1 x.args.length c1] 59)
    have hb := hb.alloc hb.size (.cells #[.int .i64 x.op, .int .i64 x.a, .int .i64 x.b, .int .i64 x.st, .string x.kind, .int .i64 x.n, .slice A1 x.args.length c1] 59)
    have HZr := HZ
    have HZ := Lib.hid (Nat.le_trans HZ.out hA.size)
    clear hA
    generalize wr.alloc (.cells #[.int .i64 x.op, .int .i64 x.a, .int .i64 x.b, .int .i64 x.st, .string x.kind, .int .i64 x.n, .slice A1 x.args.length c1] 59) = u0 at *
    have y0 := bX.at0
    have y1 := bX.at1
    have y2 := bX.at2
    have y3 := bX.at3
    have lX := bX.lt
    clear x0 x1 x2 x3 x4 x5 x6
    have hA := (Below.refl u0.heap.size u0).alloc (Nat.le_refl _) (.cells #[.int .i64 x.op, .int .i64 x.a, .int .i64 x.b, .int .i64 x.st] 3)
    have hbA := hb.alloc hb.size (.cells #[.int .i64 x.op, .int .i64 x.a, .int .i64 x.b, .int .i64 x.st] 3)
    have bRow := Blk.new u0 3 #[.int .i64 x.op, .int .i64 x.a, .int .i64 x.b, .int .i64 x.st]
    have Hn := Lib.hid (nums_any (T := T) (B := w.heap.size) (b := w.heap.size + 1) (L := cN T f k) ⟨#[10, 110, 111, 100, 101]⟩ (some ⟨u0.heap.size, 0, none⟩) 4 [x.op, x.a, x.b, x.st] (u0.alloc (.cells #[.int .i64 x.op, .int .i64 x.a, .int .i64 x.b, .int .i64 x.st] 3)) (HW.out.keep hA) hbA.size (Lib.hid (fun W' h => HT.out W' (hbA.trans h))) (lit_rd (l := [x.op, x.a, x.b, x.st]) bRow (by have := HZ.out; omega)) (by have := HIx.out.1; intro y hy; simp at hy; rcases hy with rfl | rfl | rfl | rfl; exact this.1; exact this.2.1; exact this.2.2.1; exact this.2.2.2.1) (by simp) (by have h1 := Hb.out; have h2 := Hlx.out; have g0 : (⟨#[10, 110, 111, 100, 101]⟩ : ByteArray).size = 5 := rfl; have q0 : (kB kNode).length = 5 := rfl; (try simp only [List.length_append, List.length_cons, List.length_nil]); omega))
    go_wp2_with fail
    refine Hn.out.mono ?_
    rintro e v2 ⟨rfl, hW, hbn, hkn⟩
    have hb := hbA.trans hbn
    have hkx := (KeepsWr.below hA).trans hkn
    clear hA hbA bRow
    have HW := Lib.hid (show WrL w.heap.size (w.heap.size + 1) (cN T f k ++ (kB kNode ++ numsL [x.op, x.a, x.b, x.st])) v2 from hW)
    have HZ := Lib.hid (show w.heap.size + 2 ≤ v2.heap.size from Nat.le_trans HZ.out hkx.size)
    have bI := bI.wr hkx (by omega) (by decide)
    have bX := bX.wr hkx (by have := HZr.out; omega) (by decide)
    clear Hn hW hbn hkn hkx
    clear y0 y1 y2 y3 lX
    go_upto_region 7 with (fail)
    have HTv := Lib.hid (fun W' h => HT.out W' (hb.trans h))
    obtain ⟨q, hq⟩ : ∃ q : ByteArray, q = strOfNums (Lib.quoteZ T x.kind) := ⟨_, rfl⟩
    obtain ⟨u, hu⟩ : ∃ u : ByteArray, u = ⟨(Lib.itoa x.n).toArray⟩ := ⟨_, rfl⟩
    have Hqu := Lib.hid (show q.data.toList = quoteL T x.kind ∧ u.data.toList = Lib.itoa x.n ∧ q.size = (quoteL T x.kind).length ∧ u.size = (Lib.itoa x.n).length from by
     subst hq hu
     exact ⟨rfl, by simp, by rw [quoteL, Array.length_toList]; rfl, by simp [ByteArray.size]⟩)
    have Hq1 := Lib.hid (fun W (h : Below w.heap.size v2 W) => quote_any (HTv.out W h) x.kind (by have := HIx.out.2.2; omega))
    have Hu1 := Lib.hid (fun W (h : Below w.heap.size v2 W) => fmt_any (HTv.out W h) x.n HIx.out.1.2.2.2.2)
    rw [← hq] at Hq1
    rw [← hu] at Hu1
    clear hq hu
    have Hsz := Lib.hid (show (cN T f k ++ (kB kNode ++ numsL [x.op, x.a, x.b, x.st])).length + (1 + q.size + 1 + u.size) ≤ 100000000000 from by
     have h1 := Hb.out; have h2 := Hlx.out; have h3 := Hqu.out.2.2; have q0 : (kB kNode).length = 5 := rfl
     simp only [List.length_append, List.length_cons, List.length_nil] at h1 h2 ⊢; omega)
    have o1 : ¬ 9223372036854775807 < 1 + q.size := by have := Hsz.out; omega
    have o2 : ¬ 9223372036854775807 < 1 + q.size + 1 := by have := Hsz.out; omega
    have o3 : ¬ 9223372036854775807 < 1 + q.size + 1 + u.size := by have := Hsz.out; omega
    have bX : Blk v2.drew wr.heap.size 59 #[.int .i64 x.op, .int .i64 x.a, .int .i64 x.b, .int .i64 x.st, .string x.kind, .int .i64 x.n, .slice A1 x.args.length c1] := bX
    refine wpJ_start (S := fun W : World => W.cell? ⟨wr.heap.size, 4, none⟩ = some (.string x.kind) ∧ W.cell? ⟨wr.heap.size, 5, none⟩ = some (.int .i64 x.n)) (fun _ => true) (by kernel_rfl) ⟨bX.cell 4, bX.cell 5⟩ (fun HS => ?_)
    refine takeQ 0 39 rfl HS (.inl ⟨rfl, fun W hW => by obtain ⟨q0, q1⟩ := hW; go_simp; rfl⟩) ?_
    simp only [pS]
    refine takeQ 1 40 rfl HS (.inl ⟨rfl, fun W hW => by obtain ⟨q0, q1⟩ := hW; go_simp; rfl⟩) ?_
    simp only [pS]
    refine takeQ 2 41 rfl HS (.inl ⟨rfl, fun W hW => by obtain ⟨q0, q1⟩ := hW; go_simp; rfl⟩) ?_
    simp only [pS]
    refine takeQ 3 42 rfl HS (.inl ⟨rfl, fun W hW => by obtain ⟨q0, q1⟩ := hW; go_simp; rfl⟩) ?_
    simp only [pS]
    refine takeQ 4 43 rfl HS (.inl ⟨rfl, fun W hW => by obtain ⟨q0, q1⟩ := hW; go_simp; rfl⟩) ?_
    simp only [pS]
    refine takeQ 8 47 rfl HS (.inl ⟨rfl, fun W hW => by obtain ⟨q0, q1⟩ := hW; go_simp; rfl⟩) ?_
    simp only [pS]
    refine takeQ 9 48 rfl HS (.inl ⟨rfl, fun W hW => by obtain ⟨q0, q1⟩ := hW; go_simp; rfl⟩) ?_
    simp only [pS]
    clear HS
    refine stepQ 5 rfl (fun K HKK => ?_)
    go_simp
    refine (Hq1.out v2.drew (Below.refl _ _).drew).mono ?_
    rintro e t1 ⟨rfl, hbq⟩
    have bX := bX.below hbq bX.lt
    have HS : (fun W : World => W.cell? ⟨wr.heap.size, 4, none⟩ = some (.string x.kind) ∧ W.cell? ⟨wr.heap.size, 5, none⟩ = some (.int .i64 x.n)) t1 := ⟨bX.cell 4, bX.cell 5⟩
    refine HKK.out _ _ (fun _ => HS) ?_
    clear HKK
    try simp only [pS]
    refine takeQ 6 45 rfl HS (.inl ⟨rfl, fun W hW => by obtain ⟨q0, q1⟩ := hW; go_simp; rfl⟩) ?_
    simp only [pS]
    refine takeQ 7 46 rfl HS (.inl ⟨rfl, fun W hW => by obtain ⟨q0, q1⟩ := hW; go_simp; rfl⟩) ?_
    simp only [pS]
    have hbd := (Below.refl v2.heap.size v2).drew.trans hbq
    clear HS
    refine stepQ 10 rfl (fun K HKK => ?_)
    go_simp
    refine (Hu1.out t1 (hbd.mono hb.size)).mono ?_
    rintro e t2 ⟨rfl, hbu⟩
    have bX := bX.below hbu bX.lt
    have HS : (fun W : World => W.cell? ⟨wr.heap.size, 4, none⟩ = some (.string x.kind) ∧ W.cell? ⟨wr.heap.size, 5, none⟩ = some (.int .i64 x.n)) t2 := ⟨bX.cell 4, bX.cell 5⟩
    have hbd := hbd.trans (hbu.mono hbd.size)
    refine HKK.out _ _ (fun _ => HS) ?_
    clear HKK hbu hbq Hq1 Hu1 HTv
    try simp only [pS]
    refine takeQ 11 50 rfl HS (.inl ⟨rfl, fun W hW => by obtain ⟨q0, q1⟩ := hW; go_simp; rfl⟩) ?_
    simp only [pS]
    clear HS o1 o2 o3
    have HW := Lib.hid (HW.out.keep hbd)
    have bI := bI.below hbd bI.lt
    have hb := hb.trans (hbd.mono hb.size)
    have HZ := Lib.hid (Nat.le_trans HZ.out hbd.size)
    have Hws := Lib.hid (wrL_string HW.out (⟨#[32]⟩ ++ q ++ ⟨#[32]⟩ ++ u) (by have h1 := Hsz.out; have h2 : (⟨#[32]⟩ ++ q ++ ⟨#[32]⟩ ++ u : ByteArray).size = 1 + q.size + 1 + u.size := (by simp only [ByteArray.size_append]; rfl); omega) hb.size)
    refine stepQ 12 rfl (fun K HKK => ?_)
    go_simp
    refine Hws.out.mono ?_
    rintro e t3 ⟨rfl, hW3, hb3, hk3⟩
    have bI := bI.wr hk3 (by omega) (by decide)
    have bX := bX.wr hk3 (by have := HZr.out; omega) (by decide)
    have hb := hb.trans hb3
    have HZ := Lib.hid (Nat.le_trans HZ.out hk3.size)
    have HW := Lib.hid (show WrL w.heap.size (w.heap.size + 1) (cN T f k ++ (kB kNode ++ numsL [x.op, x.a, x.b, x.st]) ++ (32 :: (quoteL T x.kind ++ (32 :: Lib.itoa x.n)))) t3 from by
     have e : (⟨#[32]⟩ ++ q ++ ⟨#[32]⟩ ++ u : ByteArray).data.toList = 32 :: (quoteL T x.kind ++ (32 :: Lib.itoa x.n)) := by rw [← Hqu.out.1, ← Hqu.out.2.1]; simp
     rw [e] at hW3
     exact hW3)
    refine HKK.out _ _ (fun _ => ⟨bX.cell 4, bX.cell 5⟩) ?_
    clear HKK hW3 hb3 hk3 hbd Hws Hqu
    refine wpAnyJ_done (by kernel_rfl) ?_ _
    have y6 : t3.cell? ⟨wr.heap.size, 6, none⟩ = some (.slice A1 x.args.length c1) := bX.cell 6
    have lX := bX.lt
    have Hn := Lib.hid (nums_any (T := T) (B := w.heap.size) (b := w.heap.size + 1) (L := cN T f k ++ (kB kNode ++ numsL [x.op, x.a, x.b, x.st]) ++ (32 :: (quoteL T x.kind ++ (32 :: Lib.itoa x.n)))) ⟨#[58]⟩ A1 c1 x.args t3 HW.out hb.size (Lib.hid (fun W' h => HT.out W' (hb.trans h))) (in_rd r1 (fun b h => h) hb hb.size) (HIx.out.2.1) (by omega) (by have h1 := Hb.out; have h2 := Hlx.out; have g0 : (⟨#[10, 110, 111, 100, 101]⟩ : ByteArray).size = 5 := rfl; have q0 : (kB kNode).length = 5 := rfl;  have g1 : (⟨#[58]⟩ : ByteArray).size = 1 := rfl; (try simp only [List.length_append, List.length_cons, List.length_nil]); omega))
    go_wp2_with fail
    refine Hn.out.mono ?_
    rintro e v3 ⟨rfl, hW, hbn, hkn⟩
    have hb := hb.trans hbn
    have hkx := hkn
    have HW := Lib.hid (show WrL w.heap.size (w.heap.size + 1) (cN T f k ++ (kB kNode ++ numsL [x.op, x.a, x.b, x.st]) ++ (32 :: (quoteL T x.kind ++ (32 :: Lib.itoa x.n))) ++ ([58] ++ numsL x.args)) v3 from hW)
    have HZ := Lib.hid (show w.heap.size + 2 ≤ v3.heap.size from Nat.le_trans HZ.out hkx.size)
    have bI := bI.wr hkx (by omega) (by decide)
    clear Hn hW hbn hkn hkx
    have HW := Lib.hid (show WrL w.heap.size (w.heap.size + 1) (cN T f (k + 1)) v3 from by have h := HW.out; rw [HC.out.1]; unfold ndL; simpa using h)
    clear y6 lX bX r1 HZr Hsz
    go_wp2
    go_roundw
    case rel => exact ⟨k + 1, by omega, by go_num, HW, bI, HZ, hb⟩
    case measure => simp [intOf]; omega
  · have e : k = f.nodes.length := by omega
    have hge : ¬ (k : Int) < f.nodes.length := by omega
    rw [e] at HW
    clear hlt e
    have HW := Lib.hid (show WrL w.heap.size (w.heap.size + 1) (cB T f 0) wr from by have := HW.out; simpa [cB] using this)
    have y3 := bI.at3
    have lI := bI.lt
    go_wp2
    clear y3 lI hge
    go_loopw [60] (fun iv wr => ∃ k : Nat, k ≤ f.blocks.length ∧ iv = .int .i64 k ∧ Hid (WrL w.heap.size (w.heap.size + 1) (cB T f k) wr) ∧ Blk wr w.heap.size 30 #[.int .i64 f.mth, .int .i64 f.entry, .slice An f.nodes.length cn, .slice Ab f.blocks.length cb, .slice As f.states.length cs] ∧ Hid (w.heap.size + 2 ≤ wr.heap.size) ∧ Below w.heap.size w wr) (fun iv _ => f.blocks.length - (intOf iv).toNat)
    case atStart => exact ⟨0, Nat.zero_le _, rfl, HW, bI, HZ, hb⟩
    case round =>
     clear HW bI HZ hb
     obtain ⟨k, hk, rfl, HW, bI, HZ, hb⟩ := hrel
     by_cases hlt : k < f.blocks.length
     · have k0 : (0 : Int) ≤ k := by omega
       have k1 : (k : Int) < f.blocks.length := by omega
       obtain ⟨b, off, A1, c1, A2, c2, A3, c3, A4, c4, rfl, hbb, x0, x1, x2, x3, r1, r2, r3, r4⟩ := rd_bk (HF.out.blocks.below hb (fun _ h => h)) hlt
       have r1 := r1.keep (w' := w) (fun p hp => (hb.cell hp).symm)
       have r2 := r2.keep (w' := w) (fun p hp => (hb.cell hp).symm)
       have r3 := r3.keep (w' := w) (fun p hp => (hb.cell hp).symm)
       have r4 := r4.keep (w' := w) (fun p hp => (hb.cell hp).symm)
       have HIx := Lib.hid (HI.out.bk k)
       have ha1 := HM.out.phis k
       have ha2 := HM.out.body k
       have ha3 := HM.out.succ k
       have ha4 := HM.out.preds k
       have HC := Lib.hid (cB_len T f k hlt)
       generalize f.blocks.getD k default = x at *
       have Hb := Lib.hid (Nat.le_trans HC.out.2 HL.out)
       have Hlx := Lib.hid (show (bkL x).length = 11 + ((numsL x.phis).length + (5 + ((numsL x.body).length + (5 + ((numsL x.succ).length + (6 + (numsL x.preds).length)))))) from by
        unfold bkL
        simp only [List.length_append, show (kB kPhis).length = 11 from rfl, show (kB kBody).length = 5 from rfl, show (kB kSucc).length = 5 from rfl, show (kB kPreds).length = 6 from rfl])
       go_upto_region 13 with (fail)
       have bX := Blk.new wr 61 #[.slice A1 x.phis.length c1, .slice A2 x.body.length c2, .slice A3 x.succ.length c3, .slice A4 x.preds.length c4]
       have hA := (Below.refl wr.heap.size wr).alloc (Nat.le_refl _) (.cells #[.slice A1 x.phis.length c1, .slice A2 x.body.length c2, .slice A3 x.succ.length c3, .slice A4 x.preds.length c4] 61)
       have HW := Lib.hid (HW.out.keep hA)
       have bI := bI.alloc (.cells #[.slice A1 x.phis.length c1, .slice A2 x.body.length c2, .slice A3 x.succ.length c3, .slice A4 x.preds.length c4] 61)
       have hb := hb.alloc hb.size (.cells #[.slice A1 x.phis.length c1, .slice A2 x.body.length c2, .slice A3 x.succ.length c3, .slice A4 x.preds.length c4] 61)
       have HZr := HZ
       have HZ := Lib.hid (Nat.le_trans HZ.out hA.size)
       clear hA
       generalize wr.alloc (.cells #[.slice A1 x.phis.length c1, .slice A2 x.body.length c2, .slice A3 x.succ.length c3, .slice A4 x.preds.length c4] 61) = u0 at *
       clear x0 x1 x2 x3
       have y : World.cell? _ ⟨wr.heap.size, 0, none⟩ = some (.slice A1 x.phis.length c1) := bX.at0
       have lX := bX.lt
       have Hn := Lib.hid (nums_any (T := T) (B := w.heap.size) (b := w.heap.size + 1) (L := cB T f k) ⟨#[10, 98, 108, 111, 99, 107, 32, 112, 104, 105, 115]⟩ A1 c1 x.phis u0 HW.out hb.size (Lib.hid (fun W' h => HT.out W' (hb.trans h))) (in_rd r1 (fun b h => h) hb hb.size) (HIx.out.1) (by omega) (by have h1 := Hb.out; have h2 := Hlx.out; have g0 : (⟨#[10, 98, 108, 111, 99, 107, 32, 112, 104, 105, 115]⟩ : ByteArray).size = 11 := rfl; have q0 : (kB kPhis).length = 11 := rfl; (try simp only [List.length_append, List.length_cons, List.length_nil]); omega))
       go_wp2_with fail
       refine Hn.out.mono ?_
       rintro e v4 ⟨rfl, hW, hbn, hkn⟩
       have hb := hb.trans hbn
       have hkx := hkn
       have HW := Lib.hid (show WrL w.heap.size (w.heap.size + 1) (cB T f k ++ (kB kPhis ++ numsL x.phis)) v4 from hW)
       have HZ := Lib.hid (show w.heap.size + 2 ≤ v4.heap.size from Nat.le_trans HZ.out hkx.size)
       have bI := bI.wr hkx (by omega) (by decide)
       have bX := bX.wr hkx (by have := HZr.out; omega) (by decide)
       clear Hn hW hbn hkn hkx
       clear y lX
       have y : World.cell? _ ⟨wr.heap.size, 1, none⟩ = some (.slice A2 x.body.length c2) := bX.at1
       have lX := bX.lt
       have Hn := Lib.hid (nums_any (T := T) (B := w.heap.size) (b := w.heap.size + 1) (L := cB T f k ++ (kB kPhis ++ numsL x.phis)) ⟨#[32, 98, 111, 100, 121]⟩ A2 c2 x.body v4 HW.out hb.size (Lib.hid (fun W' h => HT.out W' (hb.trans h))) (in_rd r2 (fun b h => h) hb hb.size) (HIx.out.2.1) (by omega) (by have h1 := Hb.out; have h2 := Hlx.out; have g0 : (⟨#[10, 98, 108, 111, 99, 107, 32, 112, 104, 105, 115]⟩ : ByteArray).size = 11 := rfl; have q0 : (kB kPhis).length = 11 := rfl;  have g1 : (⟨#[32, 98, 111, 100, 121]⟩ : ByteArray).size = 5 := rfl; have q1 : (kB kBody).length = 5 := rfl; (try simp only [List.length_append, List.length_cons, List.length_nil]); omega))
       go_wp2_with fail
       refine Hn.out.mono ?_
       rintro e v5 ⟨rfl, hW, hbn, hkn⟩
       have hb := hb.trans hbn
       have hkx := hkn
       have HW := Lib.hid (show WrL w.heap.size (w.heap.size + 1) (cB T f k ++ (kB kPhis ++ numsL x.phis) ++ (kB kBody ++ numsL x.body)) v5 from hW)
       have HZ := Lib.hid (show w.heap.size + 2 ≤ v5.heap.size from Nat.le_trans HZ.out hkx.size)
       have bI := bI.wr hkx (by omega) (by decide)
       have bX := bX.wr hkx (by have := HZr.out; omega) (by decide)
       clear Hn hW hbn hkn hkx
       clear y lX
       have y : World.cell? _ ⟨wr.heap.size, 2, none⟩ = some (.slice A3 x.succ.length c3) := bX.at2
       have lX := bX.lt
       have Hn := Lib.hid (nums_any (T := T) (B := w.heap.size) (b := w.heap.size + 1) (L := cB T f k ++ (kB kPhis ++ numsL x.phis) ++ (kB kBody ++ numsL x.body)) ⟨#[32, 115, 117, 99, 99]⟩ A3 c3 x.succ v5 HW.out hb.size (Lib.hid (fun W' h => HT.out W' (hb.trans h))) (in_rd r3 (fun b h => h) hb hb.size) (HIx.out.2.2.1) (by omega) (by have h1 := Hb.out; have h2 := Hlx.out; have g0 : (⟨#[10, 98, 108, 111, 99, 107, 32, 112, 104, 105, 115]⟩ : ByteArray).size = 11 := rfl; have q0 : (kB kPhis).length = 11 := rfl;  have g1 : (⟨#[32, 98, 111, 100, 121]⟩ : ByteArray).size = 5 := rfl; have q1 : (kB kBody).length = 5 := rfl;  have g2 : (⟨#[32, 115, 117, 99, 99]⟩ : ByteArray).size = 5 := rfl; have q2 : (kB kSucc).length = 5 := rfl; (try simp only [List.length_append, List.length_cons, List.length_nil]); omega))
       go_wp2_with fail
       refine Hn.out.mono ?_
       rintro e v6 ⟨rfl, hW, hbn, hkn⟩
       have hb := hb.trans hbn
       have hkx := hkn
       have HW := Lib.hid (show WrL w.heap.size (w.heap.size + 1) (cB T f k ++ (kB kPhis ++ numsL x.phis) ++ (kB kBody ++ numsL x.body) ++ (kB kSucc ++ numsL x.succ)) v6 from hW)
       have HZ := Lib.hid (show w.heap.size + 2 ≤ v6.heap.size from Nat.le_trans HZ.out hkx.size)
       have bI := bI.wr hkx (by omega) (by decide)
       have bX := bX.wr hkx (by have := HZr.out; omega) (by decide)
       clear Hn hW hbn hkn hkx
       clear y lX
       have y : World.cell? _ ⟨wr.heap.size, 3, none⟩ = some (.slice A4 x.preds.length c4) := bX.at3
       have lX := bX.lt
       have Hn := Lib.hid (nums_any (T := T) (B := w.heap.size) (b := w.heap.size + 1) (L := cB T f k ++ (kB kPhis ++ numsL x.phis) ++ (kB kBody ++ numsL x.body) ++ (kB kSucc ++ numsL x.succ)) ⟨#[32, 112, 114, 101, 100, 115]⟩ A4 c4 x.preds v6 HW.out hb.size (Lib.hid (fun W' h => HT.out W' (hb.trans h))) (in_rd r4 (fun b h => h) hb hb.size) (HIx.out.2.2.2) (by omega) (by have h1 := Hb.out; have h2 := Hlx.out; have g0 : (⟨#[10, 98, 108, 111, 99, 107, 32, 112, 104, 105, 115]⟩ : ByteArray).size = 11 := rfl; have q0 : (kB kPhis).length = 11 := rfl;  have g1 : (⟨#[32, 98, 111, 100, 121]⟩ : ByteArray).size = 5 := rfl; have q1 : (kB kBody).length = 5 := rfl;  have g2 : (⟨#[32, 115, 117, 99, 99]⟩ : ByteArray).size = 5 := rfl; have q2 : (kB kSucc).length = 5 := rfl;  have g3 : (⟨#[32, 112, 114, 101, 100, 115]⟩ : ByteArray).size = 6 := rfl; have q3 : (kB kPreds).length = 6 := rfl; (try simp only [List.length_append, List.length_cons, List.length_nil]); omega))
       go_wp2_with fail
       refine Hn.out.mono ?_
       rintro e v7 ⟨rfl, hW, hbn, hkn⟩
       have hb := hb.trans hbn
       have hkx := hkn
       have HW := Lib.hid (show WrL w.heap.size (w.heap.size + 1) (cB T f k ++ (kB kPhis ++ numsL x.phis) ++ (kB kBody ++ numsL x.body) ++ (kB kSucc ++ numsL x.succ) ++ (kB kPreds ++ numsL x.preds)) v7 from hW)
       have HZ := Lib.hid (show w.heap.size + 2 ≤ v7.heap.size from Nat.le_trans HZ.out hkx.size)
       have bI := bI.wr hkx (by omega) (by decide)
       have bX := bX.wr hkx (by have := HZr.out; omega) (by decide)
       clear Hn hW hbn hkn hkx
       clear y lX
       have HW := Lib.hid (show WrL w.heap.size (w.heap.size + 1) (cB T f (k + 1)) v7 from by have h := HW.out; rw [HC.out.1]; unfold bkL; simpa using h)
       clear bX r1 r2 r3 r4 HZr
       go_wp2
       go_roundw
       case rel => exact ⟨k + 1, by omega, by go_num, HW, bI, HZ, hb⟩
       case measure => simp [intOf]; omega
     · have e : k = f.blocks.length := by omega
       have hge : ¬ (k : Int) < f.blocks.length := by omega
       rw [e] at HW
       clear hlt e
       have HW := Lib.hid (show WrL w.heap.size (w.heap.size + 1) (cS T f 0) wr from by have := HW.out; simpa [cS] using this)
       have y4 : World.cell? _ ⟨w.heap.size, 4, none⟩ = some (.slice As f.states.length cs) := bI.cell 4
       have lI := bI.lt
       go_wp2
       clear y4 lI hge
       go_loopw [84] (fun iv wr => ∃ k : Nat, k ≤ f.states.length ∧ iv = .int .i64 k ∧ Hid (WrL w.heap.size (w.heap.size + 1) (cS T f k) wr) ∧ Blk wr w.heap.size 30 #[.int .i64 f.mth, .int .i64 f.entry, .slice An f.nodes.length cn, .slice Ab f.blocks.length cb, .slice As f.states.length cs] ∧ Hid (w.heap.size + 2 ≤ wr.heap.size) ∧ Below w.heap.size w wr) (fun iv _ => f.states.length - (intOf iv).toNat)
       case atStart => exact ⟨0, Nat.zero_le _, rfl, HW, bI, HZ, hb⟩
       case round =>
        clear HW bI HZ hb
        obtain ⟨k, hk, rfl, HW, bI, HZ, hb⟩ := hrel
        by_cases hlt : k < f.states.length
        · have k0 : (0 : Int) ≤ k := by omega
          have k1 : (k : Int) < f.states.length := by omega
          obtain ⟨b, off, A1, c1, A2, c2, A3, c3, rfl, hbb, x0, x1, x2, x3, x4, x5, r1, r2, r3⟩ := rd_ste (HF.out.states.below hb (fun _ h => h)) hlt
          have r1 := r1.keep (w' := w) (fun p hp => (hb.cell hp).symm)
          have r2 := r2.keep (w' := w) (fun p hp => (hb.cell hp).symm)
          have Hr3 := Lib.hid (r3.keep (w' := w) (fun p hp => (hb.cell hp).symm))
          have HIx := Lib.hid (HI.out.st k)
          have ha1 := HM.out.locals k
          have ha2 := HM.out.stack k
          have Hfl := Lib.hid (HM.out.fields k)
          have hvl := HM.out.virts k
          have HC := Lib.hid (cS_len T f k hlt)
          generalize f.states.getD k default = x at *
          have Hb := Lib.hid (Nat.le_trans HC.out.2 HL.out)
          have Hlx := Lib.hid (show (steL x).length = 6 + ((numsL [x.mth, x.pc, x.up]).length + (7 + ((numsL x.locals).length + (6 + ((numsL x.stack).length + (x.virts.flatMap vtL).length))))) from by
           unfold steL
           simp only [List.length_append, show (kB kState).length = 6 from rfl, show (kB kLocals).length = 7 from rfl, show (kB kStack).length = 6 from rfl])
          go_upto_region 21 with (fail)
          have bX := Blk.new wr 70 #[.int .i64 x.mth, .int .i64 x.pc, .int .i64 x.up, .slice A1 x.locals.length c1, .slice A2 x.stack.length c2, .slice A3 x.virts.length c3]
          have hA := (Below.refl wr.heap.size wr).alloc (Nat.le_refl _) (.cells #[.int .i64 x.mth, .int .i64 x.pc, .int .i64 x.up, .slice A1 x.locals.length c1, .slice A2 x.stack.length c2, .slice A3 x.virts.length c3] 70)
          have HW := Lib.hid (HW.out.keep hA)
          have bI := bI.alloc (.cells #[.int .i64 x.mth, .int .i64 x.pc, .int .i64 x.up, .slice A1 x.locals.length c1, .slice A2 x.stack.length c2, .slice A3 x.virts.length c3] 70)
          have hb := hb.alloc hb.size (.cells #[.int .i64 x.mth, .int .i64 x.pc, .int .i64 x.up, .slice A1 x.locals.length c1, .slice A2 x.stack.length c2, .slice A3 x.virts.length c3] 70)
          have HZr := HZ
          have HZ := Lib.hid (Nat.le_trans HZ.out hA.size)
          clear hA
          generalize wr.alloc (.cells #[.int .i64 x.mth, .int .i64 x.pc, .int .i64 x.up, .slice A1 x.locals.length c1, .slice A2 x.stack.length c2, .slice A3 x.virts.length c3] 70) = u0 at *
          clear x0 x1 x2 x3 x4 x5 r3
          have y0 := bX.at0
          have y1 := bX.at1
          have y2 := bX.at2
          have lX := bX.lt
          have hA := (Below.refl u0.heap.size u0).alloc (Nat.le_refl _) (.cells #[.int .i64 x.mth, .int .i64 x.pc, .int .i64 x.up] 3)
          have hbA := hb.alloc hb.size (.cells #[.int .i64 x.mth, .int .i64 x.pc, .int .i64 x.up] 3)
          have bRow := Blk.new u0 3 #[.int .i64 x.mth, .int .i64 x.pc, .int .i64 x.up]
          have Hn := Lib.hid (nums_any (T := T) (B := w.heap.size) (b := w.heap.size + 1) (L := cS T f k) ⟨#[10, 115, 116, 97, 116, 101]⟩ (some ⟨u0.heap.size, 0, none⟩) 3 [x.mth, x.pc, x.up] (u0.alloc (.cells #[.int .i64 x.mth, .int .i64 x.pc, .int .i64 x.up] 3)) (HW.out.keep hA) hbA.size (Lib.hid (fun W' h => HT.out W' (hbA.trans h))) (lit_rd (l := [x.mth, x.pc, x.up]) bRow (by have := HZ.out; omega)) (by have := HIx.out.1; intro y hy; simp at hy; rcases hy with rfl | rfl | rfl; exact this.1; exact this.2.1; exact this.2.2) (by simp) (by have h1 := Hb.out; have h2 := Hlx.out; have g0 : (⟨#[10, 115, 116, 97, 116, 101]⟩ : ByteArray).size = 6 := rfl; have q0 : (kB kState).length = 6 := rfl; (try simp only [List.length_append, List.length_cons, List.length_nil]); omega))
          go_wp2_with fail
          refine Hn.out.mono ?_
          rintro e v8 ⟨rfl, hW, hbn, hkn⟩
          have hb := hbA.trans hbn
          have hkx := (KeepsWr.below hA).trans hkn
          clear hA hbA bRow
          have HW := Lib.hid (show WrL w.heap.size (w.heap.size + 1) (cS T f k ++ (kB kState ++ numsL [x.mth, x.pc, x.up])) v8 from hW)
          have HZ := Lib.hid (show w.heap.size + 2 ≤ v8.heap.size from Nat.le_trans HZ.out hkx.size)
          have bI := bI.wr hkx (by omega) (by decide)
          have bX := bX.wr hkx (by have := HZr.out; omega) (by decide)
          clear Hn hW hbn hkn hkx
          clear y0 y1 y2 lX
          have y : World.cell? _ ⟨wr.heap.size, 3, none⟩ = some (.slice A1 x.locals.length c1) := bX.cell 3
          have lX := bX.lt
          have Hn := Lib.hid (nums_any (T := T) (B := w.heap.size) (b := w.heap.size + 1) (L := cS T f k ++ (kB kState ++ numsL [x.mth, x.pc, x.up])) ⟨#[32, 108, 111, 99, 97, 108, 115]⟩ A1 c1 x.locals v8 HW.out hb.size (Lib.hid (fun W' h => HT.out W' (hb.trans h))) (in_rd r1 (fun b h => h) hb hb.size) (HIx.out.2.1) (by omega) (by have h1 := Hb.out; have h2 := Hlx.out; have g0 : (⟨#[10, 115, 116, 97, 116, 101]⟩ : ByteArray).size = 6 := rfl; have q0 : (kB kState).length = 6 := rfl;  have g1 : (⟨#[32, 108, 111, 99, 97, 108, 115]⟩ : ByteArray).size = 7 := rfl; have q1 : (kB kLocals).length = 7 := rfl; (try simp only [List.length_append, List.length_cons, List.length_nil]); omega))
          go_wp2_with fail
          refine Hn.out.mono ?_
          rintro e v9 ⟨rfl, hW, hbn, hkn⟩
          have hb := hb.trans hbn
          have hkx := hkn
          have HW := Lib.hid (show WrL w.heap.size (w.heap.size + 1) (cS T f k ++ (kB kState ++ numsL [x.mth, x.pc, x.up]) ++ (kB kLocals ++ numsL x.locals)) v9 from hW)
          have HZ := Lib.hid (show w.heap.size + 2 ≤ v9.heap.size from Nat.le_trans HZ.out hkx.size)
          have bI := bI.wr hkx (by omega) (by decide)
          have bX := bX.wr hkx (by have := HZr.out; omega) (by decide)
          clear Hn hW hbn hkn hkx
          clear y lX
          have y : World.cell? _ ⟨wr.heap.size, 4, none⟩ = some (.slice A2 x.stack.length c2) := bX.cell 4
          have lX := bX.lt
          have Hn := Lib.hid (nums_any (T := T) (B := w.heap.size) (b := w.heap.size + 1) (L := cS T f k ++ (kB kState ++ numsL [x.mth, x.pc, x.up]) ++ (kB kLocals ++ numsL x.locals)) ⟨#[32, 115, 116, 97, 99, 107]⟩ A2 c2 x.stack v9 HW.out hb.size (Lib.hid (fun W' h => HT.out W' (hb.trans h))) (in_rd r2 (fun b h => h) hb hb.size) (HIx.out.2.2.1) (by omega) (by have h1 := Hb.out; have h2 := Hlx.out; have g0 : (⟨#[10, 115, 116, 97, 116, 101]⟩ : ByteArray).size = 6 := rfl; have q0 : (kB kState).length = 6 := rfl;  have g1 : (⟨#[32, 108, 111, 99, 97, 108, 115]⟩ : ByteArray).size = 7 := rfl; have q1 : (kB kLocals).length = 7 := rfl;  have g2 : (⟨#[32, 115, 116, 97, 99, 107]⟩ : ByteArray).size = 6 := rfl; have q2 : (kB kStack).length = 6 := rfl; (try simp only [List.length_append, List.length_cons, List.length_nil]); omega))
          go_wp2_with fail
          refine Hn.out.mono ?_
          rintro e v10 ⟨rfl, hW, hbn, hkn⟩
          have hb := hb.trans hbn
          have hkx := hkn
          have HW := Lib.hid (show WrL w.heap.size (w.heap.size + 1) (cS T f k ++ (kB kState ++ numsL [x.mth, x.pc, x.up]) ++ (kB kLocals ++ numsL x.locals) ++ (kB kStack ++ numsL x.stack)) v10 from hW)
          have HZ := Lib.hid (show w.heap.size + 2 ≤ v10.heap.size from Nat.le_trans HZ.out hkx.size)
          have bI := bI.wr hkx (by omega) (by decide)
          have bX := bX.wr hkx (by have := HZr.out; omega) (by decide)
          clear Hn hW hbn hkn hkx
          clear y lX
          have y : World.cell? _ ⟨wr.heap.size, 5, none⟩ = some (.slice A3 x.virts.length c3) := bX.cell 5
          have lX := bX.lt
          go_wp2
          clear y lX bX r1 r2 HZr ha1 ha2
          have HW := Lib.hid (show WrL w.heap.size (w.heap.size + 1) ((cS T f k ++ (kB kState ++ numsL [x.mth, x.pc, x.up]) ++ (kB kLocals ++ numsL x.locals) ++ (kB kStack ++ numsL x.stack)) ++ (x.virts.take 0).flatMap vtL) v10 from by have h := HW.out; simpa using h)
          go_loopw [108] (fun iv wr => ∃ j : Nat, j ≤ x.virts.length ∧ iv = .int .i64 j ∧ Hid (WrL w.heap.size (w.heap.size + 1) ((cS T f k ++ (kB kState ++ numsL [x.mth, x.pc, x.up]) ++ (kB kLocals ++ numsL x.locals) ++ (kB kStack ++ numsL x.stack)) ++ (x.virts.take j).flatMap vtL) wr) ∧ Blk wr w.heap.size 30 #[.int .i64 f.mth, .int .i64 f.entry, .slice An f.nodes.length cn, .slice Ab f.blocks.length cb, .slice (some ⟨b, off, none⟩) f.states.length cs] ∧ Hid (w.heap.size + 2 ≤ wr.heap.size) ∧ Below w.heap.size w wr) (fun iv _ => x.virts.length - (intOf iv).toNat)
          case atStart => exact ⟨0, Nat.zero_le _, rfl, HW, bI, HZ, hb⟩
          case round =>
           clear HW bI HZ hb
           obtain ⟨j, hj, rfl, HW, bI, HZ, hb⟩ := hrel
           by_cases hlj : j < x.virts.length
           · have j0 : (0 : Int) ≤ j := by omega
             have j1 : (j : Int) < x.virts.length := by omega
             obtain ⟨b9, off9, A9, c9, rfl, hb9, v0, v1, r9⟩ := rd_vt (Hr3.out.below hb (fun _ h => h)) hlj
             have r9 := r9.keep (w' := w) (fun p hp => (hb.cell hp).symm)
             have HIy := Lib.hid (HIx.out.2.2.2 j)
             have ha9 := Hfl.out j
             have HCj := Lib.hid (flat_take vtL x.virts j hlj)
             generalize x.virts.getD j default = y at *
             have Hly := Lib.hid (show (vtL y).length = 8 + ((numsL [y.cls]).length + (7 + (numsL y.fields).length)) from by
              unfold vtL
              simp only [List.length_append, show (kB kVirt).length = 8 from rfl, show (kB kFields).length = 7 from rfl])
             go_upto_region 27 with (fail)
             have bX := Blk.new wr 72 #[.int .i64 y.cls, .slice A9 y.fields.length c9]
             have hA := (Below.refl wr.heap.size wr).alloc (Nat.le_refl _) (.cells #[.int .i64 y.cls, .slice A9 y.fields.length c9] 72)
             have HW := Lib.hid (HW.out.keep hA)
             have bI := bI.alloc (.cells #[.int .i64 y.cls, .slice A9 y.fields.length c9] 72)
             have hb := hb.alloc hb.size (.cells #[.int .i64 y.cls, .slice A9 y.fields.length c9] 72)
             have HZr := HZ
             have HZ := Lib.hid (Nat.le_trans HZ.out hA.size)
             clear hA
             generalize wr.alloc (.cells #[.int .i64 y.cls, .slice A9 y.fields.length c9] 72) = u0 at *
             clear v0 v1
             have y0 := bX.at0
             have lX := bX.lt
             have hA := (Below.refl u0.heap.size u0).alloc (Nat.le_refl _) (.cells #[.int .i64 y.cls] 3)
             have hbA := hb.alloc hb.size (.cells #[.int .i64 y.cls] 3)
             have bRow := Blk.new u0 3 #[.int .i64 y.cls]
             have Hn := Lib.hid (nums_any (T := T) (B := w.heap.size) (b := w.heap.size + 1) (L := (cS T f k ++ (kB kState ++ numsL [x.mth, x.pc, x.up]) ++ (kB kLocals ++ numsL x.locals) ++ (kB kStack ++ numsL x.stack)) ++ (x.virts.take j).flatMap vtL) ⟨#[32, 118, 105, 114, 116, 117, 97, 108]⟩ (some ⟨u0.heap.size, 0, none⟩) 1 [y.cls] (u0.alloc (.cells #[.int .i64 y.cls] 3)) (HW.out.keep hA) hbA.size (Lib.hid (fun W' h => HT.out W' (hbA.trans h))) (lit_rd (l := [y.cls]) bRow (by have := HZ.out; omega)) (by have := HIy.out.1; intro z hz; simp at hz; subst hz; exact this) (by simp) (by have h1 := Hb.out; have h2 := Hlx.out; have h5 := HCj.out.2; have h6 := Hly.out; have g0 : (⟨#[10, 115, 116, 97, 116, 101]⟩ : ByteArray).size = 6 := rfl; have q0 : (kB kState).length = 6 := rfl;  have g1 : (⟨#[32, 108, 111, 99, 97, 108, 115]⟩ : ByteArray).size = 7 := rfl; have q1 : (kB kLocals).length = 7 := rfl;  have g2 : (⟨#[32, 115, 116, 97, 99, 107]⟩ : ByteArray).size = 6 := rfl; have q2 : (kB kStack).length = 6 := rfl;  have g3 : (⟨#[32, 118, 105, 114, 116, 117, 97, 108]⟩ : ByteArray).size = 8 := rfl; have q3 : (kB kVirt).length = 8 := rfl; (try simp only [List.length_append, List.length_cons, List.length_nil]); omega))
             go_wp2_with fail
             refine Hn.out.mono ?_
             rintro e v11 ⟨rfl, hW, hbn, hkn⟩
             have hb := hbA.trans hbn
             have hkx := (KeepsWr.below hA).trans hkn
             clear hA hbA bRow
             have HW := Lib.hid (show WrL w.heap.size (w.heap.size + 1) ((cS T f k ++ (kB kState ++ numsL [x.mth, x.pc, x.up]) ++ (kB kLocals ++ numsL x.locals) ++ (kB kStack ++ numsL x.stack)) ++ (x.virts.take j).flatMap vtL ++ (kB kVirt ++ numsL [y.cls])) v11 from hW)
             have HZ := Lib.hid (show w.heap.size + 2 ≤ v11.heap.size from Nat.le_trans HZ.out hkx.size)
             have bI := bI.wr hkx (by omega) (by decide)
             have bX := bX.wr hkx (by have := HZr.out; omega) (by decide)
             clear Hn hW hbn hkn hkx
             clear y0 lX
             have z1 := bX.at1
             have lX := bX.lt
             have Hn := Lib.hid (nums_any (T := T) (B := w.heap.size) (b := w.heap.size + 1) (L := (cS T f k ++ (kB kState ++ numsL [x.mth, x.pc, x.up]) ++ (kB kLocals ++ numsL x.locals) ++ (kB kStack ++ numsL x.stack)) ++ (x.virts.take j).flatMap vtL ++ (kB kVirt ++ numsL [y.cls])) ⟨#[32, 102, 105, 101, 108, 100, 115]⟩ A9 c9 y.fields v11 HW.out hb.size (Lib.hid (fun W' h => HT.out W' (hb.trans h))) (in_rd r9 (fun b h => h) hb hb.size) (HIy.out.2) (by omega) (by have h1 := Hb.out; have h2 := Hlx.out; have h5 := HCj.out.2; have h6 := Hly.out; have g0 : (⟨#[10, 115, 116, 97, 116, 101]⟩ : ByteArray).size = 6 := rfl; have q0 : (kB kState).length = 6 := rfl;  have g1 : (⟨#[32, 108, 111, 99, 97, 108, 115]⟩ : ByteArray).size = 7 := rfl; have q1 : (kB kLocals).length = 7 := rfl;  have g2 : (⟨#[32, 115, 116, 97, 99, 107]⟩ : ByteArray).size = 6 := rfl; have q2 : (kB kStack).length = 6 := rfl;  have g3 : (⟨#[32, 118, 105, 114, 116, 117, 97, 108]⟩ : ByteArray).size = 8 := rfl; have q3 : (kB kVirt).length = 8 := rfl;  have g4 : (⟨#[32, 102, 105, 101, 108, 100, 115]⟩ : ByteArray).size = 7 := rfl; have q4 : (kB kFields).length = 7 := rfl; (try simp only [List.length_append, List.length_cons, List.length_nil]); omega))
             go_wp2_with fail
             refine Hn.out.mono ?_
             rintro e v12 ⟨rfl, hW, hbn, hkn⟩
             have hb := hb.trans hbn
             have hkx := hkn
             have HW := Lib.hid (show WrL w.heap.size (w.heap.size + 1) ((cS T f k ++ (kB kState ++ numsL [x.mth, x.pc, x.up]) ++ (kB kLocals ++ numsL x.locals) ++ (kB kStack ++ numsL x.stack)) ++ (x.virts.take j).flatMap vtL ++ (kB kVirt ++ numsL [y.cls]) ++ (kB kFields ++ numsL y.fields)) v12 from hW)
             have HZ := Lib.hid (show w.heap.size + 2 ≤ v12.heap.size from Nat.le_trans HZ.out hkx.size)
             have bI := bI.wr hkx (by omega) (by decide)
             clear Hn hW hbn hkn hkx
             have HW := Lib.hid (show WrL w.heap.size (w.heap.size + 1) ((cS T f k ++ (kB kState ++ numsL [x.mth, x.pc, x.up]) ++ (kB kLocals ++ numsL x.locals) ++ (kB kStack ++ numsL x.stack)) ++ (x.virts.take (j + 1)).flatMap vtL) v12 from by have h := HW.out; rw [HCj.out.1]; unfold vtL at h ⊢; simpa using h)
             clear z1 lX bX r9 HZr
             go_wp2
             go_roundw
             case rel => exact ⟨j + 1, by omega, by go_num, HW, bI, HZ, hb⟩
             case measure => simp [intOf]; omega
           · have e : x.virts.length = j := by omega
             have hge : ¬ (j : Int) < x.virts.length := by omega
             have HW := Lib.hid (show WrL w.heap.size (w.heap.size + 1) (cS T f (k + 1)) wr from by
              have h := HW.out
              rw [HC.out.1]
              unfold steL
              rw [List.take_of_length_le (by omega)] at h
              simpa using h)
             clear hlj e
             go_wp2
             go_roundw
             case rel => exact ⟨k + 1, by omega, by go_num, HW, bI, HZ, hb⟩
             case measure => simp [intOf]; omega
        · have e : k = f.states.length := by omega
          have hge : ¬ (k : Int) < f.states.length := by omega
          rw [e] at HW
          clear hlt e
          have HW := Lib.hid (show WrL w.heap.size (w.heap.size + 1) (textL T f) wr from by have := HW.out; rwa [cS_all] at this)
          obtain ⟨p, hp, hWr⟩ := HW.out
          have Hx := Lib.hid (wrText w.heap.size (w.heap.size + 1) p (textL T f) wr hWr (by unfold textL kFun kB; simp))
          clear hWr
          go_wp2_with fail
          refine Hx.out.mono ?_
          rintro e w9 ⟨rfl, hb9⟩
          go_wp2
          exact HP.out w9 (hb.trans hb9)
end Go.Proofs.YtjjmpfmhggcjiaaGreatDoor
