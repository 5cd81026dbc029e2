/-
 Tx0, Tx1, TxN.
-/
import Derived.Lib.SmallJoins
import Derived.Test.YtjjmpfmhggcjiaaGreatDoorJWr1
import Derived.Test.YtjjmpfmhggcjiaaGreatDoorJRegPar
import Derived.Test.YtjjmpfmhggcjiaaGreatDoorJTabs
set_option linter.unusedSimpArgs false
set_option linter.unusedVariables false
namespace Go.Proofs.YtjjmpfmhggcjiaaGreatDoor
open Go.RowKit Go.Maps
def toZ (L : List UInt8) : List Int := L.map fun b => (b.toNat : Int)
theorem toZ_app (a b : List UInt8) : toZ (a ++ b) = toZ a ++ toZ b := by simp [toZ]
theorem toZ_itoa (n : Int) : toZ (Lib.itoa n) = itoaZ n := by
 have := bytesZ_itoa n
 unfold bytesZ at this
 simpa [toZ] using this
theorem toZ_len (a : List UInt8) : (toZ a).length = a.length := by simp [toZ]
def numsL (l : List Int) : List UInt8 := l.flatMap fun n => 32 :: Lib.itoa n
theorem toZ_nums (l : List Int) : toZ (numsL l) = numsZ l := by
 induction l with
 | nil => rfl
 | cons n l ih =>
   rw [numsZ_cons, ← ih, ← toZ_itoa]
   simp [numsL, toZ]
def quoteL (T : Lib.PrintTabs) (s : ByteArray) : List UInt8 := (strOfNums (Lib.quoteZ T s)).data.toList
theorem toZ_quote (T : Lib.PrintTabs) (s : ByteArray) : toZ (quoteL T s) = Lib.quoteZ T s := bytesZ_nums (byt_quote T s)
def kB (l : List Int) : List UInt8 := l.map fun x => UInt8.ofNat x.toNat
def ndL (T : Lib.PrintTabs) (x : Nd) : List UInt8 := kB kNode ++ (numsL [x.op, x.a, x.b, x.st] ++ ((32 :: (quoteL T x.kind ++ (32 :: Lib.itoa x.n))) ++ ([58] ++ numsL x.args)))
def bkL (b : Bk) : List UInt8 := kB kPhis ++ (numsL b.phis ++ (kB kBody ++ (numsL b.body ++ (kB kSucc ++ (numsL b.succ ++ (kB kPreds ++ numsL b.preds))))))
def vtL (v : Vt) : List UInt8 := kB kVirt ++ (numsL [v.cls] ++ (kB kFields ++ numsL v.fields))
def steL (s : Ste) : List UInt8 := kB kState ++ (numsL [s.mth, s.pc, s.up] ++ (kB kLocals ++ (numsL s.locals ++ (kB kStack ++ (numsL s.stack ++ s.virts.flatMap vtL)))))
def textL (T : Lib.PrintTabs) (f : Fn) : List UInt8 := kB kFun ++ (numsL [f.mth, f.entry] ++ (f.nodes.flatMap (ndL T) ++ (f.blocks.flatMap bkL ++ f.states.flatMap steL)))
theorem toZ_flat {α : Type} {g : α → List UInt8} {z : α → List Int} (h : ∀ x, toZ (g x) = z x) (l : List α) : toZ (l.flatMap g) = l.flatMap z := by
 induction l with
 | nil => rfl
 | cons x l ih =>
   simp only [List.flatMap_cons]
   rw [toZ_app, h, ih]
theorem toZ_nd (T : Lib.PrintTabs) (x : Nd) : toZ (ndL T x) = ndZ T x := by
 unfold ndL ndZ
 simp only [toZ_app, toZ_nums]
 rw [show toZ (32 :: (quoteL T x.kind ++ 32 :: Lib.itoa x.n)) = 32 :: (toZ (quoteL T x.kind) ++ 32 :: toZ (Lib.itoa x.n)) by simp [toZ], toZ_quote, toZ_itoa, show toZ (kB kNode) = kNode by decide, show toZ [58] = [58] by decide]
 simp
theorem toZ_bk (x : Bk) : toZ (bkL x) = bkZ x := by
 unfold bkL bkZ
 simp only [toZ_app, toZ_nums]
 rw [show toZ (kB kPhis) = kPhis by decide, show toZ (kB kBody) = kBody by decide, show toZ (kB kSucc) = kSucc by decide, show toZ (kB kPreds) = kPreds by decide]
theorem toZ_vt (x : Vt) : toZ (vtL x) = vtZ x := by
 unfold vtL vtZ
 simp only [toZ_app, toZ_nums]
 rw [show toZ (kB kVirt) = kVirt by decide, show toZ (kB kFields) = kFields by decide]
theorem toZ_ste (x : Ste) : toZ (steL x) = steZ x := by
 unfold steL steZ
 simp only [toZ_app, toZ_nums]
 rw [toZ_flat toZ_vt, show toZ (kB kState) = kState by decide, show toZ (kB kLocals) = kLocals by decide, show toZ (kB kStack) = kStack by decide]
theorem toZ_text (T : Lib.PrintTabs) (f : Fn) : toZ (textL T f) = textZ T f := by
 unfold textL textZ
 simp only [toZ_app, toZ_nums]
 rw [toZ_flat (toZ_nd T), toZ_flat toZ_bk, toZ_flat toZ_ste, show toZ (kB kFun) = kFun by decide]
theorem textL_inj (T : Lib.PrintTabs) {f g : Fn} (e : textL T f = textL T g) : f = g := text_inj T (by rw [← toZ_text, ← toZ_text, e])
theorem Tabs.below {T : Lib.PrintTabs} {w w' : World} (h : Tabs T w) (hb : Below w.heap.size w w') : Tabs T w' := ⟨printTabs_below h.pr hb, Utf8Tabs_below h.ut hb, Go.Joins.tab_stays (g := 9) (by kernel_rfl) h.pw hb (Nat.le_refl _)⟩
/-- A writer that holds these bytes. -/
def WrL (B b : Nat) (L : List UInt8) (w : World) : Prop := ∃ p, (p = .pointer none ∨ p = .pointer (some ⟨b, 0, none⟩)) ∧ WrAt B b p (Lib.byteCells L) w
theorem WrL.drew {B b : Nat} {L : List UInt8} {w : World} (h : WrL B b L w) : WrL B b L w.drew := h
/-- What is made beside it leaves a writer as it is. -/
theorem WrL.keep {B b : Nat} {L : List UInt8} {w w' : World} (h : WrL B b L w) (hb : Below w.heap.size w w') : WrL B b L w' := by
 obtain ⟨p, hp, hB, v, h1, h2, h3⟩ := h
 refine ⟨p, hp, hB, v, (hb.block b ?_).trans h1, own_below h2 hb (Nat.le_refl _), h3⟩
 rcases Nat.lt_or_ge b w.heap.size with h' | h'
 · exact h'
 · simp [Array.getElem?_eq_none h'] at h1
theorem wrL_string {B b : Nat} {L : List UInt8} {w : World} (h : WrL B b L w) (s : ByteArray) (hlen : L.length + s.size ≤ 140737488355328) (hBw : B ≤ w.heap.size) :
 Calls Tryz.prog 56 #[.pointer (some ⟨b, 0, none⟩), .string s] w fun e w' => e = .returned (.tuple #[.int .i64 s.size, .nilIface]) ∧ WrL B b (L ++ s.data.toList) w' ∧ Below B w w' ∧ KeepsWr b w w' := by
 obtain ⟨p, hp, h⟩ := h
 refine (wrString B b p _ s w hp h (by rw [Lib.byteCells_length]; exact hlen) hBw).mono ?_
 rintro e w' ⟨h1, h2, h3, h4⟩
 refine ⟨h1, ⟨_, .inr rfl, ?_⟩, h3, h4⟩
 have e : Lib.byteCells (L ++ s.data.toList) = Lib.byteCells L ++ Lib.strCells s := by simp [Lib.byteCells, Lib.strCells]
 rw [e]
 exact h2
theorem Blk.wr {w w' : World} {b g : Nat} {t : TypeId} {cs : Array Value} (h : Blk w g t cs) (hk : KeepsWr b w w') (hb : g ≠ b) (ht : t ≠ 5) : Blk w' g t cs :=
 (hk.keep g h.lt hb (fun cs2 fz e => by
  have := (show w.heap[g]? = some _ from h).symm.trans e
  simp at this
  exact ht this.2.1)).trans h
end Go.Proofs.YtjjmpfmhggcjiaaGreatDoor
namespace Go.Proofs.YtjjmpfmhggcjiaaGreatDoor
open Go.RowKit Go.Maps
theorem numsL_snoc (l : List Int) (n : Int) : numsL (l ++ [n]) = numsL l ++ (32 :: Lib.itoa n) := by simp [numsL]
theorem numsL_len_take (l : List Int) (k : Nat) (hk : k < l.length) : (numsL (l.take k)).length + (1 + (Lib.itoa (l[k]?.getD 0)).length) ≤ (numsL l).length := by
 have e : l.take k ++ (l[k] :: l.drop (k + 1)) = l := by simp
 have e2 : numsL (l.take k ++ (l[k] :: l.drop (k + 1))) = numsL (l.take k) ++ ((32 :: Lib.itoa l[k]) ++ numsL (l.drop (k + 1))) := by
  unfold numsL
  rw [List.flatMap_append, List.flatMap_cons]
 rw [e] at e2
 rw [e2, List.getElem?_eq_getElem hk]
 simp only [List.length_append, List.length_cons, Option.getD_some]
 omega
def NumsPost (B b : Nat) (L : List UInt8) (w : World) (e : Ending) (w' : World) : Prop := e = .returned (.tuple #[]) ∧ WrL B b L w' ∧ Below B w w' ∧ KeepsWr b w w'
set_option maxRecDepth 100000 in
set_option maxHeartbeats 4000000 in
theorem nums_any {T : Lib.PrintTabs} {B b : Nat} {L : List UInt8} (head : ByteArray) (A : Option Addr) (c : Nat) (l : List Int) (w : World) (hW : WrL B b L w) (hBw : B ≤ w.heap.size) (HT : Hid (∀ W, Below B w W → Tabs T W))
 (HR : Hid (∀ W, Below B w W → KeepsWr b w W → Rd W W.heap.size 1 A l.length (ints l))) (hI : ∀ x ∈ l, I64 x) (hl : l.length ≤ 1000000000000) (hlen : L.length + (head.size + (numsL l).length) ≤ 100000000000000) :
 Calls Tryz.prog 55 #[.pointer (some ⟨b, 0, none⟩), .string head, .slice A l.length c] w (NumsPost B b (L ++ (head.data.toList ++ numsL l)) w) := by
 have HP := Lib.hid (fun w' (h1 : WrL B b (L ++ (head.data.toList ++ numsL l)) w') (h2 : Below B w w') (h3 : KeepsWr b w w') => (show NumsPost B b (L ++ (head.data.toList ++ numsL l)) w (.returned (.tuple #[])) w' from ⟨rfl, h1, h2, h3⟩))
 generalize hPo : NumsPost B b (L ++ (head.data.toList ++ numsL l)) w = Post at *
 clear hPo
 have HI := Lib.hid hI
 have HL := Lib.hid hlen
 have H0 := Lib.hid (wrL_string hW head (by omega) hBw)
 clear hI hlen hW
 go_enter Tryz.func55, Tryz.ntmps55
 go_wp2_with fail
 refine H0.out.mono ?_
 rintro e w1 ⟨rfl, hW1, hb1, hk1⟩
 have HW1 := Lib.hid (show WrL B b (L ++ (head.data.toList ++ numsL (l.take 0))) w1 by simpa [numsL] using hW1)
 have HK1 := Lib.hid hk1
 clear H0 hW1 hk1
 go_wp2
 go_loopw [15] (fun iv wr => ∃ k : Nat, k ≤ l.length ∧ iv = .int .i64 k ∧ Hid (WrL B b (L ++ (head.data.toList ++ numsL (l.take k))) wr) ∧ Hid (KeepsWr b w wr) ∧ Below B w wr) (fun iv _ => l.length - (intOf iv).toNat)
 case atStart => exact ⟨0, Nat.zero_le _, rfl, HW1, HK1, hb1⟩
 case round =>
  clear HW1 HK1 hb1
  obtain ⟨k, hk, rfl, HW, HK, hb⟩ := hrel
  by_cases hlt : k < l.length
  · have k0 : (0 : Int) ≤ k := by omega
    have k1 : (k : Int) < l.length := by omega
    obtain ⟨g, off, rfl, hg, x0⟩ := ints_at (HR.out wr hb HK.out) hlt
    have hIx := HI.out (l[k]?.getD 0) (by rw [List.getElem?_eq_getElem hlt]; exact List.getElem_mem _)
    have Htk := Lib.hid (show numsL (l.take (k + 1)) = numsL (l.take k) ++ (32 :: Lib.itoa (l[k]?.getD 0)) by rw [← numsL_snoc, List.take_succ_eq_append_getElem hlt, List.getElem?_eq_getElem hlt]; rfl)
    have Hln := Lib.hid (numsL_len_take l k hlt)
    generalize l[k]?.getD 0 = x at *
    go_upto_region 4 with (fail)
    have hb4 := hb.size
    have Hi := Lib.hid (itoa_any (HT.out wr.drew hb.drew) x hIx)
    have Hln2 := Lib.hid (show (L ++ (head.data.toList ++ numsL (l.take k))).length + (1 + (Lib.itoa x).length) ≤ 100000000000000 from by
     have h1 := HL.out
     have h2 := Hln.out
     have h3 : head.size = head.data.toList.length := by rw [Array.length_toList]; rfl
     simp only [List.length_append] at h2 ⊢
     omega)
    clear Hln hIx
    refine wpJ_start (S := fun _ => True) (fun _ => true) (by kernel_rfl) trivial (fun HS => ?_)
    refine takeQ 0 19 rfl HS (.inl ⟨rfl, fun W hW => by go_simp; rfl⟩) ?_
    simp only [pS]
    refine takeQ 1 20 rfl HS (.inl ⟨rfl, fun W hW => by go_simp; rfl⟩) ?_
    simp only [pS]
    refine takeQ 2 21 rfl HS (.inl ⟨rfl, fun W hW => by go_simp; rfl⟩) ?_
    simp only [pS]
    refine takeQ 3 22 rfl HS (.inl ⟨rfl, fun W hW => by go_simp; rfl⟩) ?_
    simp only [pS]
    refine stepQ 4 rfl (fun K HKK => ?_)
    go_simp
    refine Hi.out.mono ?_
    rintro e w5 ⟨rfl, hb5⟩
    refine HKK.out _ _ (fun _ => trivial) ?_
    clear HKK
    try simp only [pS]
    obtain ⟨u, hu⟩ : ∃ u : ByteArray, u = ⟨(Lib.itoa x).toArray⟩ := ⟨_, rfl⟩
    have Hu := Lib.hid (show u.data.toList = Lib.itoa x ∧ u.size = (Lib.itoa x).length by subst hu; simp [ByteArray.size])
    rw [← hu]
    clear hu
    have o1 : ¬ 9223372036854775807 < 1 + u.size := by have := Hu.out.2; have := Hln2.out; omega
    have o2 : 1 + u.size ≤ 9223372036854775807 := by omega
    refine stepQ 5 rfl (fun K HKK => ?_)
    go_simp
    refine HKK.out _ _ (fun _ => trivial) ?_
    clear HKK
    try simp only [pS]
    have HW5 := Lib.hid ((HW.out.drew).keep hb5)
    have hsx : (⟨#[32]⟩ ++ u : ByteArray).size = 1 + u.size := by simp [ByteArray.size_append]; rfl
    have Hw := Lib.hid (wrL_string HW5.out (⟨#[32]⟩ ++ u) (by have := Hu.out.2; have := Hln2.out; omega) (by have := hb5.size; simp at this; omega))
    clear hsx o1 o2
    refine stepQ 6 rfl (fun K HKK => ?_)
    go_simp
    refine Hw.out.mono ?_
    rintro e w6 ⟨rfl, hW6, hb6, hk6⟩
    refine HKK.out _ _ (fun _ => trivial) ?_
    clear HKK
    refine wpAnyJ_done (by kernel_rfl) ?_ _
    have HW6 := Lib.hid (show WrL B b (L ++ (head.data.toList ++ numsL (l.take (k + 1)))) w6 from by
     rw [Htk.out]
     have e : (⟨#[32]⟩ ++ u : ByteArray).data.toList = 32 :: Lib.itoa x := by rw [← Hu.out.1]; simp
     rw [e] at hW6
     simpa using hW6)
    have hbx := hb.drew.trans ((hb5.mono (Nat.le_trans hBw hb4)).trans hb6)
    have HK6 := Lib.hid ((HK.out.drew.trans (KeepsWr.below hb5)).trans hk6)
    clear hW6 hb5 hb6 hk6 HW5 Hw HW HK hb HS
    go_wp2
    go_roundw
    case rel => exact ⟨k + 1, by omega, by go_num, HW6, HK6, hbx⟩
    case measure => simp [intOf]; omega
  · have e : l.length = k := by omega
    subst e
    have hge : ¬ (l.length : Int) < l.length := by omega
    have HW9 := Lib.hid (show WrL B b (L ++ (head.data.toList ++ numsL l)) wr from by have := HW.out; rwa [List.take_of_length_le (Nat.le_refl _)] at this)
    clear hlt HW
    go_wp2
    exact bodyPost_end (v := .tuple #[]) (by simp [results, Tryz.results55]) rfl (HP.out wr HW9.out hb HK.out)
end Go.Proofs.YtjjmpfmhggcjiaaGreatDoor
namespace Go.Proofs.YtjjmpfmhggcjiaaGreatDoor
open Go.RowKit Go.Maps
def wNd (x : Nd) : Nat := x.kind.size + x.args.length + 8
def wBk (x : Bk) : Nat := x.phis.length + x.body.length + x.succ.length + x.preds.length + 5
def wVt (x : Vt) : Nat := x.fields.length + 3
def wSum {α : Type} (w : α → Nat) : List α → Nat
 | [] => 0
 | x :: l => w x + wSum w l
def wSte (x : Ste) : Nat := x.locals.length + x.stack.length + wSum wVt x.virts + 7
def wFn (f : Fn) : Nat := wSum wNd f.nodes + wSum wBk f.blocks + wSum wSte f.states + 6
theorem wSum_len {α : Type} {w : α → Nat} (h : ∀ x, 1 ≤ w x) : ∀ l : List α, l.length ≤ wSum w l
 | [] => Nat.le_refl _
 | x :: l => by
   have := wSum_len h l
   have := h x
   simp only [List.length_cons, wSum]
   omega
theorem wSum_mem {α : Type} {w : α → Nat} {x : α} : ∀ {l : List α}, x ∈ l → w x ≤ wSum w l
 | y :: l, h => by
   rcases List.mem_cons.1 h with rfl | h
   · simp only [wSum]; omega
   · have := wSum_mem (w := w) h
     simp only [wSum]
     omega
theorem flat_le {α : Type} {g : α → List UInt8} {w : α → Nat} {l : List α} (h : ∀ x ∈ l, (g x).length ≤ 21 * w x) : (l.flatMap g).length ≤ 21 * wSum w l := by
 induction l with
 | nil => simp [wSum]
 | cons x l ih =>
   have a := h x List.mem_cons_self
   have b := ih (fun y hy => h y (List.mem_cons_of_mem _ hy))
   simp only [List.flatMap_cons, List.length_append, wSum]
   omega
theorem itoaL_len {n : Int} (h : I64 n) : (Lib.itoa n).length ≤ 20 := by
 have := itoaZ_len h.1 h.2
 rw [← toZ_itoa, toZ_len] at this
 exact this
theorem numsL_le {l : List Int} (h : ∀ x ∈ l, I64 x) : (numsL l).length ≤ 21 * l.length := by
 have := numsZ_len h
 rw [← toZ_nums, toZ_len] at this
 exact this
theorem quoteL_len (T : Lib.PrintTabs) (s : ByteArray) : (quoteL T s).length ≤ 10 * s.size + 2 := by
 have : (quoteL T s).length = (Lib.quoteZ T s).length := by rw [← toZ_quote, toZ_len]
 rw [this]
 exact Lib.quoteZ_length_le _ s
/-- Numbers are numbers, thing by thing. -/
structure FnJ (f : Fn) : Prop where
 top : I64 f.mth ∧ I64 f.entry
 nd : ∀ x ∈ f.nodes, (I64 x.op ∧ I64 x.a ∧ I64 x.b ∧ I64 x.st ∧ I64 x.n) ∧ ∀ y ∈ x.args, I64 y
 bk : ∀ x ∈ f.blocks, (∀ y ∈ x.phis, I64 y) ∧ (∀ y ∈ x.body, I64 y) ∧ (∀ y ∈ x.succ, I64 y) ∧ ∀ y ∈ x.preds, I64 y
 st : ∀ x ∈ f.states, (I64 x.mth ∧ I64 x.pc ∧ I64 x.up) ∧ (∀ y ∈ x.locals, I64 y) ∧ (∀ y ∈ x.stack, I64 y) ∧ ∀ v ∈ x.virts, I64 v.cls ∧ ∀ y ∈ v.fields, I64 y
theorem text_len (T : Lib.PrintTabs) {f : Fn} (h : FnJ f) : (textL T f).length ≤ 21 * wFn f := by
 have hn : (f.nodes.flatMap (ndL T)).length ≤ 21 * wSum wNd f.nodes := flat_le (fun x hx => by
  obtain ⟨⟨h1, h2, h3, h4, h5⟩, h6⟩ := h.nd x hx
  have a := numsL_le (l := [x.op, x.a, x.b, x.st]) (by intro y hy; simp at hy; rcases hy with rfl | rfl | rfl | rfl <;> assumption)
  have b := numsL_le h6
  have c := quoteL_len T x.kind
  have d := itoaL_len h5
  have e : (kB kNode).length = 5 := rfl
  unfold ndL wNd
  simp only [List.length_append, List.length_cons, List.length_nil] at a ⊢
  omega)
 have hb : (f.blocks.flatMap bkL).length ≤ 21 * wSum wBk f.blocks := flat_le (fun x hx => by
  obtain ⟨h1, h2, h3, h4⟩ := h.bk x hx
  have a := numsL_le h1
  have b := numsL_le h2
  have c := numsL_le h3
  have d := numsL_le h4
  have e1 : (kB kPhis).length = 11 := rfl
  have e2 : (kB kBody).length = 5 := rfl
  have e3 : (kB kSucc).length = 5 := rfl
  have e4 : (kB kPreds).length = 6 := rfl
  unfold bkL wBk
  simp only [List.length_append]
  omega)
 have hs : (f.states.flatMap steL).length ≤ 21 * wSum wSte f.states := flat_le (fun x hx => by
  obtain ⟨⟨h1, h2, h3⟩, h4, h5, h6⟩ := h.st x hx
  have a := numsL_le (l := [x.mth, x.pc, x.up]) (by intro y hy; simp at hy; rcases hy with rfl | rfl | rfl <;> assumption)
  have b := numsL_le h4
  have c := numsL_le h5
  have d : (x.virts.flatMap vtL).length ≤ 21 * wSum wVt x.virts := flat_le (fun v hv => by
   obtain ⟨g1, g2⟩ := h6 v hv
   have a := numsL_le (l := [v.cls]) (by intro y hy; simp at hy; subst hy; exact g1)
   have b := numsL_le g2
   have e1 : (kB kVirt).length = 8 := rfl
   have e2 : (kB kFields).length = 7 := rfl
   unfold vtL wVt
   simp only [List.length_append, List.length_cons, List.length_nil] at a ⊢
   omega)
  have e1 : (kB kState).length = 6 := rfl
  have e2 : (kB kLocals).length = 7 := rfl
  have e3 : (kB kStack).length = 6 := rfl
  unfold steL wSte
  simp only [List.length_append, List.length_cons, List.length_nil] at a ⊢
  omega)
 have a := numsL_le (l := [f.mth, f.entry]) (by intro y hy; simp at hy; rcases hy with rfl | rfl; exact h.top.1; exact h.top.2)
 have e : (kB kFun).length = 8 := rfl
 unfold textL wFn
 simp only [List.length_append, List.length_cons, List.length_nil] at a ⊢
 omega
end Go.Proofs.YtjjmpfmhggcjiaaGreatDoor
