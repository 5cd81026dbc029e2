/-
 Dom1, Dom2.
-/
import Derived.Test.YtjjmpfmhggcjiaaGreatDoorJFlow3
import Derived.Test.YtjjmpfmhggcjiaaGreatDoorJSettlePure
set_option linter.unusedSimpArgs false
set_option linter.unusedVariables false
namespace Go.Proofs.YtjjmpfmhggcjiaaGreatDoor
open Go.RowKit Go.Maps
/-- Where a place stands in the order (-1: nowhere). -/
structure AtL (order : List Nat) (pos : Nat → Nat) (n : Nat) (atl : List Int) : Prop where
 len : atl.length = n
 yes : ∀ k, k ∈ order → k < n ∧ atl.getD k 0 = pos k
 no : ∀ k, k < n → k ∉ order → atl.getD k 0 = -1
def MeetPost (w : World) (idl : List Int) (a b : Nat) (e : Ending) (w' : World) : Prop :=
 ∃ v q, e = .returned (.int .i64 ((v : Nat) : Int)) ∧ (idOf idl v).isSome = true ∧ (∀ x, Ch (idOf idl) x v ↔ Ch (idOf idl) x a ∧ Ch (idOf idl) x b) ∧ w' = w.drewN q
set_option maxRecDepth 100000 in
set_option maxHeartbeats 2000000 in
theorem meet_any {E : Nat → Nat → Prop} {order : List Nat} {pos tp : Nat → Nat} {n : Nat} {idl atl : List Int} {r : Nat → Nat} (O : Ordd E order pos tp) (I : Inv E order pos tp (idOf idl) r) (hp0 : pos 0 = 0) (hA : AtL order pos n atl) (hn : n ≤ 100000) (hl : idl.length = n)
 (w : World) (gt gi ga ba bt : Nat) (t1 t2 : TypeId) (hb1 : Blk w bt t1 #[.pointer (some ⟨gt, 0, none⟩)]) (hb2 : Blk w ba t2 #[.slice (some ⟨ga, 0, none⟩) n n])
 (ht : w.cell? ⟨gt, 1, none⟩ = some (.slice (some ⟨gi, 0, none⟩) n n)) (hi : Blk w gi 3 ⟨ints idl⟩) (ha : Blk w ga 3 ⟨ints atl⟩) (a b : Nat) (hsa : (idOf idl a).isSome = true) (hsb : (idOf idl b).isSome = true) :
 Calls Tryz.prog 176 #[.int .i64 a, .int .i64 b, .pointer (some ⟨ba, 0, none⟩), .pointer (some ⟨bt, 0, none⟩)] w (MeetPost w idl a b) := by
 have hPP : ∀ v q, (idOf idl v).isSome = true → (∀ x, Ch (idOf idl) x v ↔ Ch (idOf idl) x a ∧ Ch (idOf idl) x b) → MeetPost w idl a b (.returned (.int .i64 ((v : Nat) : Int))) (w.drewN q) := fun v q h1 h2 => ⟨v, q, rfl, h1, h2, rfl⟩
 have HP := Lib.hid hPP
 clear hPP
 generalize MeetPost w idl a b = Post at *
 have Hsa := Lib.hid hsa
 have Hsb := Lib.hid hsb
 have Hl := Lib.hid hl
 have HO := Lib.hid (show pos 0 = 0 ∧ Ordd E order pos tp ∧ Inv E order pos tp (idOf idl) r ∧ AtL order pos n atl from ⟨hp0, O, I, hA⟩)
 have Hw := Lib.hid (show Blk w bt t1 #[.pointer (some ⟨gt, 0, none⟩)] ∧ Blk w ba t2 #[.slice (some ⟨ga, 0, none⟩) n n] ∧ w.cell? ⟨gt, 1, none⟩ = some (.slice (some ⟨gi, 0, none⟩) n n) ∧ Blk w gi 3 ⟨ints idl⟩ ∧ Blk w ga 3 ⟨ints atl⟩ from ⟨hb1, hb2, ht, hi, ha⟩)
 clear hsa hsb hl hp0 O I hA hb1 hb2 ht hi ha
 go_enter Tryz.func176, Tryz.ntmps176
 go_wp2
 go_loopg [0, 1] (pos a + pos b + 1) (fun k av bv wr => ∃ a' b' q : Nat, av = .int .i64 (a' : Int) ∧ bv = .int .i64 (b' : Int) ∧ Hid ((idOf idl a').isSome = true) ∧ Hid ((idOf idl b').isSome = true) ∧ Hid (∀ x, (Ch (idOf idl) x a' ∧ Ch (idOf idl) x b') ↔ (Ch (idOf idl) x a ∧ Ch (idOf idl) x b)) ∧ pos a' + pos b' < k ∧ wr = w.drewN q)
 case atStart => exact ⟨a, b, 0, rfl, rfl, Hsa, Hsb, Lib.hid (fun x => Iff.rfl), Nat.lt_succ_self _, rfl⟩
 case round =>
  obtain ⟨a', b', q, rfl, rfl, sa, sb, HC, hlt, rfl⟩ := hrel
  by_cases hab : a' = b'
  · subst hab
    have hC := Lib.hid (fun x => (⟨fun h => (HC.out x).1 ⟨h, h⟩, fun h => ((HC.out x).2 h).1⟩ : Ch (idOf idl) x a' ↔ Ch (idOf idl) x a ∧ Ch (idOf idl) x b))
    go_wp2
    exact HP.out a' q sa.out hC.out
  · obtain ⟨hp0, O, I, hA⟩ := HO.out
    obtain ⟨c1, c2, c3, c4, c5⟩ := Hw.out
    have hao := I.mem O sa.out
    have hbo := I.mem O sb.out
    have g1 : ((a' : Int) != (b' : Int)) = true := by
     have : (a' : Int) ≠ b' := by omega
     simpa using this
    have g2 : (a' != b') = true := by simpa using hab
    obtain ⟨ha1, ha2⟩ := hA.yes a' hao
    obtain ⟨hb1, hb2⟩ := hA.yes b' hbo
    have y1 := ints_cell c5 (show a' < atl.length by rw [hA.len]; exact ha1)
    have y2 := ints_cell c5 (show b' < atl.length by rw [hA.len]; exact hb1)
    rw [ha2] at y1
    rw [hb2] at y2
    have z1 := c1.at0
    have z2 := c2.at0
    have hne : pos a' ≠ pos b' := fun e => hab (O.inj _ _ hao hbo e)
    have k1 : (0 : Int) ≤ a' := by omega
    have k2 : (a' : Int) < n := by omega
    have k3 : (0 : Int) ≤ b' := by omega
    have k4 : (b' : Int) < n := by omega
    have l1 := c1.lt
    have l2 := c2.lt
    by_cases hgt : pos b' < pos a'
    · have g3 : decide ((pos b' : Int) < (pos a' : Int)) = true := by simpa using hgt
      have g4 : decide (pos b' < pos a') = true := by simpa using hgt
      have ha0 : a' ≠ 0 := fun e => by subst e; omega
      obtain ⟨u, hu⟩ := Option.isSome_iff_exists.1 sa.out
      have hup := I.up a' u hu ha0
      have hpu := I.lt O hu ha0
      have y3 := ints_cell c4 (show a' < idl.length by rw [Hl.out]; exact ha1)
      rw [← getD_neg (by rw [Hl.out]; exact ha1), idOf_some hu] at y3
      have HC' := Lib.hid (fun x => (meet_step I O sa.out sb.out hgt hu x).symm.trans (HC.out x))
      have su := Lib.hid hup.2.2
      clear hu hup hab ha0 O I hA hao hbo ha2 hb2 hgt c1 c2 c4 c5 sa HC
      go_wp2
      go_quiet (fail)
      rename Nat => q2
      go_wp2
      go_roundg (pos u + pos b' + 1)
      case measure => omega
      case rel => exact ⟨u, b', _, rfl, rfl, su, sb, HC', Nat.lt_succ_self _, by first | rfl | exact World.drewN_drewN _ _ _⟩
    · have g3 : decide ((pos b' : Int) < (pos a' : Int)) = false := by simpa using hgt
      have g4 : decide (pos b' < pos a') = false := by simpa using hgt
      have hb0 : b' ≠ 0 := fun e => by subst e; omega
      obtain ⟨u, hu⟩ := Option.isSome_iff_exists.1 sb.out
      have hup := I.up b' u hu hb0
      have hpu := I.lt O hu hb0
      have y3 := ints_cell c4 (show b' < idl.length by rw [Hl.out]; exact hb1)
      rw [← getD_neg (by rw [Hl.out]; exact hb1), idOf_some hu] at y3
      have hlt' : pos a' < pos b' := by omega
      have HC' := Lib.hid (fun x => (and_comm.trans ((meet_step I O sb.out sa.out hlt' hu x).symm.trans and_comm)).trans (HC.out x))
      have su := Lib.hid hup.2.2
      clear hu hup hab hb0 O I hA hao hbo ha2 hb2 hgt hlt' c1 c2 c4 c5 sb HC
      go_wp2
      go_quiet (fail)
      rename Nat => q2
      go_wp2
      go_roundg (pos a' + pos u + 1)
      case measure => omega
      case rel => exact ⟨a', u, _, rfl, rfl, sa, su, HC', Nat.lt_succ_self _, by first | rfl | exact World.drewN_drewN _ _ _⟩
end Go.Proofs.YtjjmpfmhggcjiaaGreatDoor
namespace Go.Proofs.YtjjmpfmhggcjiaaGreatDoor
open Go.RowKit Go.Maps
theorem kept_of_grown {w w' : World} {g : Nat} (h : w.grownBy w' (some g)) : Kept (fun b => b < w.heap.size ∧ b ≠ g) w w' := fun p hp => World.cell?_of_block (h.block p.block hp.1 (fun e => hp.2 (Option.some.inj e)))
theorem grownN {a w : World} {row : Option Nat} (h : a.grownBy w row) (n : Nat) : a.grownBy (w.drewN n) row := ⟨h.os, h.tape, h.output, h.size, h.block⟩
theorem gt_lt {w : World} {g o : Nat} {v : Value} (h : w.cell? ⟨g, o, none⟩ = some v) : g < w.heap.size := World.block_lt_of_cell? w ⟨g, o, none⟩ h
def HeadR (E : Nat → Nat → Prop) (order : List Nat) (pos tp : Nat → Nat) (n : Nat) (idl : List Int) (ch : Bool) (k : Nat) : Prop :=
 (ch = true → ∃ r R, SetR E order pos tp n idl r R 1 false ∧ R ≤ order.length + 1 ∧ order.length + 2 - R ≤ k) ∧ (ch = false → ∃ r R, SetR E order pos tp n idl r R order.length false)
structure DoneL (E : Nat → Nat → Prop) (order : List Nat) (pos : Nat → Nat) (n : Nat) (idl : List Int) : Prop where
 len : idl.length = n
 root : idl.getD 0 0 = -1
 up : ∀ k, k ∈ order → k ≠ 0 → ∃ u : Nat, idl.getD k 0 = u ∧ u ∈ order ∧ pos u < pos k ∧ ∀ x, x ≠ k → (Dm E x k ↔ Dm E x u)
 out : ∀ k, k < n → k ∉ order → idl.getD k 0 = -1
def SettlePost (w : World) (E : Nat → Nat → Prop) (order : List Nat) (pos : Nat → Nat) (n gi : Nat) (e : Ending) (w' : World) : Prop :=
 ∃ idl, e = .returned (.tuple #[]) ∧ Blk w' gi 3 ⟨ints idl⟩ ∧ DoneL E order pos n idl ∧ w.grownBy w' (some gi)
theorem done_of {E : Nat → Nat → Prop} {order : List Nat} {pos tp : Nat → Nat} {n : Nat} {idl : List Int} {r : Nat → Nat} {R : Nat} (S : SetR E order pos tp n idl r R order.length false) (O : Ordd E order pos tp) (hpos : ∀ j, j ∈ order → pos j < order.length) (hlt : ∀ j, j ∈ order → j < n) (hn : 0 < n) :
 DoneL E order pos n (idl.set 0 (-1)) := by
 have hg : ∀ k, k ≠ 0 → k < n → (idl.set 0 (-1)).getD k 0 = idl.getD k (-1) := fun k hk hkn => by
  have hk' : ¬ 0 = k := fun e => hk e.symm
  have hkl : k < idl.length := by rw [S.len]; exact hkn
  rw [getD_neg hkl]
  simp [hk']
 refine ⟨by simp [S.len], by simp [show 0 < idl.length by rw [S.len]; exact hn], fun k hk hk0 => ?_, fun k hk hko => ?_⟩
 · obtain ⟨u, h1, h2⟩ := S.fin O hpos hk hk0
   exact ⟨u, by rw [hg k hk0 (hlt k hk)]; exact h1, h2⟩
 · have hk0 : k ≠ 0 := fun e => hko (by subst e; exact (O.mem 0).2 .zero)
   rw [hg k hk0 hk]
   exact S.out O hko
set_option maxRecDepth 100000 in
set_option maxHeartbeats 8000000 in
theorem settle_any {E : Nat → Nat → Prop} {order : List Nat} {pos tp : Nat → Nat} {n : Nat} {atl : List Int} {pl : List (List Nat)} (O : Ordd E order pos tp) (hp0 : pos 0 = 0) (hpos : ∀ m k, order[m]? = some k → pos k = m) (hA : AtL order pos n atl) (hn0 : 0 < n) (hn : n ≤ 100000) (hon : order.length ≤ n)
 (hpl : pl.length = n) (hP : ∀ k, k < n → ∀ p, p ∈ pl.getD k [] ↔ p < n ∧ E p k) (hPl : ∀ k, (pl.getD k []).length ≤ 100000)
 (w : World) (gt gi ga gp go co : Nat) (hgi : gi < w.heap.size) (hne1 : gt ≠ gi) (hne2 : ga ≠ gi) (ht0 : w.cell? ⟨gt, 0, none⟩ = some (.slice (some ⟨gp, 0, none⟩) n n)) (ht1 : w.cell? ⟨gt, 1, none⟩ = some (.slice (some ⟨gi, 0, none⟩) n n))
 (hi : Blk w gi 3 ⟨ints (List.replicate n (-1))⟩) (ha : Blk w ga 3 ⟨ints atl⟩) (hpr : RdL rowShape w (fun b => b < w.heap.size ∧ b ≠ gi) (some ⟨gp, 0, none⟩) (pl.map nats)) (hor : RdS w (fun b => b < w.heap.size ∧ b ≠ gi) 1 (some ⟨go, 0, none⟩) order.length (ints (nats order))) (hco : order.length ≤ co) :
 Calls Tryz.prog 135 #[.pointer (some ⟨gt, 0, none⟩), .slice (some ⟨go, 0, none⟩) order.length co, .slice (some ⟨ga, 0, none⟩) n n] w (SettlePost w E order pos n gi) := by
 have hord0 : 0 ∈ order := (O.mem 0).2 .zero
 have hol : 0 < order.length := List.length_pos_of_mem hord0
 have holn : ∀ j, j ∈ order → j < n := fun j hj => (hA.yes j hj).1
 have hposl : ∀ j, j ∈ order → pos j < order.length := fun j hj => by
  obtain ⟨m, hm, he⟩ := List.mem_iff_getElem.1 hj
  rw [hpos m j (by rw [List.getElem?_eq_getElem hm, he])]
  exact hm
 have hPP : ∀ idl w', HeadR E order pos tp n idl false 0 → Blk w' gi 3 ⟨ints (idl.set 0 (-1))⟩ → w.grownBy w' (some gi) → SettlePost w E order pos n gi (.returned (.tuple #[])) w' := fun idl w' h1 h2 h3 => by
  obtain ⟨r, R, S⟩ := h1.2 rfl
  exact ⟨_, rfl, h2, done_of S O hposl holn hn0, h3⟩
 have HP := Lib.hid hPP
 clear hPP
 generalize SettlePost w E order pos n gi = Post at *
 have H0 := Lib.hid (SetR.begin0 hn0 hp0 O)
 have c0 := ints_cell hi (k := 0) (by simpa using hn0)
 have f0 := hi.frozen 0
 have n0 : (0 : Int) < n := by omega
 have Hgt := gt_lt ht0
 have hga := ha.lt
 go_enter Tryz.func135, Tryz.ntmps135
 go_wp2
 have hgw0 := grown_setCell w ⟨gi, 0, none⟩ (.int .i64 0)
 have hgw := (hgw0.trans (World.grownBy_alloc (w.setCell ⟨gi, 0, none⟩ (.int .i64 0)) (.cells #[.pointer (some ⟨gt, 0, none⟩)] 110) (some gi))).trans (World.grownBy_alloc _ (.cells #[.slice (some ⟨ga, 0, none⟩) n n] 47) (some gi))
 have bi := ((ints_blk_set hi 0 0).alloc (.cells #[.pointer (some ⟨gt, 0, none⟩)] 110)).alloc (.cells #[.slice (some ⟨ga, 0, none⟩) n n] 47)
 have bb1 := (Blk.newAt (w := w.setCell ⟨gi, 0, none⟩ (.int .i64 0)) (g := w.heap.size) (by simp) 110 #[.pointer (some ⟨gt, 0, none⟩)]).alloc (.cells #[.slice (some ⟨ga, 0, none⟩) n n] 47)
 have bb2 := Blk.newAt (w := (w.setCell ⟨gi, 0, none⟩ (.int .i64 0)).alloc (.cells #[.pointer (some ⟨gt, 0, none⟩)] 110)) (g := w.heap.size + 1) (by simp) 47 #[.slice (some ⟨ga, 0, none⟩) n n]
 generalize ((w.setCell ⟨gi, 0, none⟩ (.int .i64 0)).alloc (.cells #[.pointer (some ⟨gt, 0, none⟩)] 110)).alloc (.cells #[.slice (some ⟨ga, 0, none⟩) n n] 47) = w2 at *
 clear hgw0 hi c0 f0
 generalize (List.replicate n (-1 : Int)).set 0 0 = idl0 at *
 have Hi1 : Hid (HeadR E order pos tp n idl0 true (order.length + 2)) := Lib.hid ⟨fun _ => ⟨_, 0, H0.out, by omega, by omega⟩, fun h => by cases h⟩
 have HH := Lib.hid (show Ordd E order pos tp ∧ pos 0 = 0 ∧ (∀ m k, order[m]? = some k → pos k = m) ∧ AtL order pos n atl ∧ (∀ k, k < n → ∀ p, p ∈ pl.getD k [] ↔ p < n ∧ E p k) ∧ (∀ j, j ∈ order → pos j < order.length) from ⟨O, hp0, hpos, hA, hP, hposl⟩)
 clear H0 O hp0 hpos hA hP hposl hord0
 have Hal := Lib.hid holn
 have Hpll := Lib.hid hPl
 clear holn hPl
 go_loopg [7] (order.length + 2) (fun k cv wr => ∃ (ch : Bool) (idl : List Int), cv = .bool ch ∧ Hid (HeadR E order pos tp n idl ch k) ∧ Blk wr gi 3 ⟨ints idl⟩ ∧ Blk wr w.heap.size 110 #[.pointer (some ⟨gt, 0, none⟩)] ∧ Blk wr (w.heap.size + 1) 47 #[.slice (some ⟨ga, 0, none⟩) n n] ∧ w.grownBy wr (some gi))
 case atStart => exact ⟨true, idl0, rfl, Hi1, bi, bb1, bb2, hgw⟩
 case round =>
  clear Hi1 bi bb1 bb2 hgw
  obtain ⟨ch, idl, rfl, HR, bi, bb1, bb2, hg⟩ := hrel
  have z1 := bb1.at0
  have t1 := World.grownBy.cell hg ht1 (fun e => hne1 (Option.some.inj e))
  have hl1 := bb1.lt
  cases ch with
  | false =>
    have hlen : idl.length = n := by
     obtain ⟨r, R, S⟩ := HR.out.2 rfl
     exact S.len
    have y0 := ints_cell bi (k := 0) (by omega)
    have fr := bi.frozen 0
    have li := bi.lt
    clear hlen
    have HR0 : Hid (HeadR E order pos tp n idl false 0) := Lib.hid ⟨fun h => (by cases h), HR.out.2⟩
    go_wp2
    go_end0
    exact HP.out idl _ HR0.out (ints_blk_set bi 0 (-1)) (hg.trans (grown_setCell _ ⟨gi, 0, none⟩ _))
  | true =>
    obtain ⟨r0, R, S0, hR1, hR2⟩ := HR.out.1 rfl
    have S0' := Lib.hid S0
    clear HR S0 z1 t1 hl1
    by_cases hc1 : co = 1
    · have ho1 : order.length = 1 := by omega
      have HE : Hid (HeadR E order pos tp n idl false 0) := Lib.hid ⟨fun h => (by cases h), fun _ => ⟨r0, R, by rw [ho1]; exact S0'.out⟩⟩
      have hgk : 0 < gk := by omega
      clear HH S0' hR1 hR2
      go_wp2
      go_loopw [7, 23] (fun cv jv wq => cv = .bool false ∧ jv = .int .i64 0 ∧ wq = wr) (fun _ _ _ => 0)
      case atStart => exact ⟨rfl, rfl, rfl⟩
      case round =>
       obtain ⟨rfl, rfl, rfl⟩ := hrel
       go_wp2
       go_roundg 0
       case measure => exact hgk
       case rel => exact ⟨false, idl, rfl, HE, bi, bb1, bb2, hg⟩
    · have hc2 : 1 < co := by omega
      have hc3 : ¬ co ≤ 1 := by omega
      go_wp2
      go_loopw [7, 23] (fun cv jv wq => ∃ (ch : Bool) (j : Nat) (idl : List Int) (r : Nat → Nat), cv = .bool ch ∧ jv = .int .i64 j ∧ j + 1 ≤ order.length ∧ Hid (SetR E order pos tp n idl r R (j + 1) ch) ∧ Blk wq gi 3 ⟨ints idl⟩ ∧ Blk wq w.heap.size 110 #[.pointer (some ⟨gt, 0, none⟩)] ∧ Blk wq (w.heap.size + 1) 47 #[.slice (some ⟨ga, 0, none⟩) n n] ∧ w.grownBy wq (some gi)) (fun _ jv _ => order.length - (intOf jv).toNat)
      case atStart => exact ⟨false, 0, idl, r0, rfl, rfl, by omega, S0', bi, bb1, bb2, hg⟩
      case round =>
       clear S0' bi bb1 bb2 hg
       obtain ⟨ch, j, idl, r, rfl, rfl, hj, S, bi, bb1, bb2, hg⟩ := hrel
       by_cases hjl : j + 1 < order.length
       · obtain ⟨k, hk⟩ : ∃ k, order[j + 1]? = some k := ⟨_, List.getElem?_eq_getElem hjl⟩
         obtain ⟨O, hp0, hpos, hA, hP, hposl⟩ := HH.out
         have hko : k ∈ order := List.mem_of_getElem? hk
         have hkn := Hal.out k hko
         have hkp := hpos _ _ hk
         have hk0 : k ≠ 0 := fun e => by subst e; omega
         have K := kept_of_grown hg
         obtain ⟨bo, oo, eo, hbo, yo⟩ := (hor.keep K).2 (by omega)
         injection eo with eo
         injection eo with eo eo2
         subst eo eo2
         have yo1 := yo (j + 1) (.int .i64 (k : Int)) (by simp [ints, nats, hk])
         rw [show 0 + (j + 1) = 1 + j by omega] at yo1
         obtain ⟨bp, op, A1, c1, ep, hbp, yp, hrow⟩ := rd_row (hpr.keep K) (k := k) (by simpa [hpl] using hkn)
         injection ep with ep
         injection ep with ep ep2
         subst ep ep2
         have hlrow : (pl.map nats).getD k [] = nats (pl.getD k []) := by rw [List.getD_eq_getElem?_getD, map_nats_get pl (by omega)]; rfl
         rw [hlrow] at yp hrow
         rw [Nat.zero_add] at yp
         have hnl : (nats (pl.getD k [])).length = (pl.getD k []).length := nats_len _
         rw [hnl] at yp
         have hPk := Lib.hid (hP k hkn)
         have hPlen := Hpll.out k
         have z1 := bb1.at0
         have z2 := bb2.at0
         have t0 := World.grownBy.cell hg ht0 (fun e => hne1 (Option.some.inj e))
         have t1 := World.grownBy.cell hg ht1 (fun e => hne1 (Option.some.inj e))
         have hga2 := ha.grown hg (fun e => hne2 (Option.some.inj e))
         have hl1 := bb1.lt
         have hl2 := bb2.lt
         have hli := bi.lt
         have k0 : (0 : Int) ≤ k := by omega
         have k1 : (k : Int) < n := by omega
         have j0 : (0 : Int) ≤ j := by omega
         have j1 : (j : Int) < ((order.length - 1 : Nat) : Int) := by omega
         have j2 : (j : Int) < (order.length : Int) - 1 := by omega
         have j3 : j < order.length - 1 := by omega
         have hidl : idl.length = n := S.out.len
         have Hidl := Lib.hid hidl
         -- what stood there
         have yv := ints_cell bi (show k < idl.length by omega)
         have fv := bi.frozen k
         have HA := Lib.hid hA
         have HPk2 := Lib.hid (show ∀ p, E p k → (idOf idl p).isSome = true → p ∈ pl.getD k [] from fun p e hs => (hPk.out p).2 ⟨Hal.out p (S.out.inv.mem O hs), e⟩)
         have HPk3 := Lib.hid (show ∀ p, p ∈ pl.getD k [] → E p k from fun p hp => ((hPk.out p).1 hp).2)
         have HPk4 := Lib.hid (show ∀ p, p ∈ pl.getD k [] → p < n from fun p hp => ((hPk.out p).1 hp).1)
         have Htp := Lib.hid (show E (tp k) k ∧ (idOf idl (tp k)).isSome = true from ⟨(O.tp k hko hk0).1, (S.out.bef _ (O.tp k hko hk0).2.1 (by have := (O.tp k hko hk0).2.2; omega)).1⟩)
         have Hkk := Lib.hid (show k ∈ order ∧ k ≠ 0 ∧ pos k = j + 1 from ⟨hko, hk0, hkp⟩)
         clear hk O hp0 hpos hA hP hposl hko hkp hk0 K yo hlrow hPk hidl
         generalize pl.getD k [] = P at *
         obtain ⟨wo, rfl⟩ : ∃ wo : World, wo = wr := ⟨_, rfl⟩
         go_wp2
         go_loopw [10, 35] (fun uv qv w3 => ∃ (q d : Nat) (up : Int), uv = .int .i64 up ∧ qv = .int .i64 q ∧ q ≤ P.length ∧ Hid (MeetTo idl (P.take q) up) ∧ w3 = wo.drewN d) (fun _ qv _ => P.length - (intOf qv).toNat)
         case atStart => exact ⟨0, 0, -1, rfl, rfl, Nat.zero_le _, Lib.hid (by simpa using MeetTo.start idl), rfl⟩
         case round =>
          obtain ⟨q, d, up, rfl, rfl, hq, T, rfl⟩ := hrel
          by_cases hql : q < P.length
          · obtain ⟨p, hp⟩ : ∃ p, P[q]? = some p := ⟨_, List.getElem?_eq_getElem hql⟩
            have hpm : p ∈ P := List.mem_of_getElem? hp
            have hpn := HPk4.out p hpm
            obtain ⟨br, orr, rfl, hbr, yq⟩ := ints_at (hrow.rd (B := w.heap.size) (fun b h => h.1)) (k := q) (by rw [hnl]; exact hql)
            have hpv : (nats P)[q]?.getD 0 = (p : Int) := by simp [nats, hp]
            rw [hpv] at yq
            have Htake := Lib.hid (show P.take (q + 1) = P.take q ++ [p] by rw [List.take_succ_eq_append_getElem hql]; rw [List.getElem?_eq_getElem hql] at hp; cases hp; rfl)
            have q0 : (0 : Int) ≤ q := by omega
            have q1 : (q : Int) < P.length := by omega
            have p0 : (0 : Int) ≤ p := by omega
            have p1 : (p : Int) < n := by omega
            have hal := HA.out.len
            have ya := ints_cell hga2 (show p < atl.length by omega)
            have yi := ints_cell bi (show p < idl.length by rw [Hidl.out]; exact hpn)
            by_cases hpo : p ∈ order
            · have hap := (HA.out.yes p hpo).2
              rw [hap] at ya
              have g1 : (((pos p : Nat) : Int) == -1) = false := by
               have : ((pos p : Nat) : Int) ≠ -1 := by omega
               simp
              cases hsp : idOf idl p with
              | none =>
                have hv := idOf_none (S.out.neg p) hsp
                rw [getD_neg (by rw [Hidl.out]; exact hpn)] at hv
                rw [hv] at yi
                have T' := Lib.hid (T.out.skip hsp)
                rw [← Htake.out] at T'
                clear hsp hv hap hp hpm hpv T hpo hal
                go_wp2
                go_roundw
                case rel => exact ⟨q + 1, d, up, rfl, by go_num, by omega, T', rfl⟩
                case measure => simp [intOf]; omega
              | some v =>
                have hv := idOf_some hsp
                rw [getD_neg (by rw [Hidl.out]; exact hpn)] at hv
                rw [hv] at yi
                have g2 : ((v : Int) == -1) = false := by
                 have : (v : Int) ≠ -1 := by omega
                 simp
                have Hs := Lib.hid (show (idOf idl p).isSome = true by rw [hsp]; rfl)
                clear hsp hv hap hp hpm hpv hpo hal
                by_cases hup : up = -1
                · subst hup
                  have T' := Lib.hid (T.out.first Hs.out)
                  rw [← Htake.out] at T'
                  clear T
                  go_wp2
                  go_roundw
                  case rel => exact ⟨q + 1, d, p, rfl, by go_num, by omega, T', rfl⟩
                  case measure => simp [intOf]; omega
                · obtain ⟨a, ha1, ha2, ha3⟩ := T.out.yes hup
                  subst ha1
                  have g3 : ((a : Int) == -1) = false := by simp
                  have Hs2 := Lib.hid ha2
                  clear hup ha2 ha3
                  go_wp2_with fail
                  refine (meet_any HH.out.1 S.out.inv HH.out.2.1 HA.out hn Hidl.out (wo.drewN d) gt gi ga (w.heap.size + 1) w.heap.size _ _ bb1 bb2 t1 bi hga2 a p Hs2.out Hs.out).mono ?_
                  rintro e w4 ⟨v2, q2, rfl, hv2, hm2, rfl⟩
                  have T' := Lib.hid (T.out.meet Hs.out hv2 hm2)
                  rw [← Htake.out] at T'
                  clear T hv2 hm2
                  go_wp2
                  go_roundw
                  case rel => exact ⟨q + 1, _, v2, rfl, by go_num, by omega, T', by first | rfl | exact World.drewN_drewN _ _ _⟩
                  case measure => simp [intOf]; omega
            · have hap := HA.out.no p hpn hpo
              rw [hap] at ya
              have hsp : idOf idl p = none := by
               cases h : idOf idl p with
               | none => rfl
               | some v => exact absurd (S.out.inv.mem HH.out.1 (by rw [h]; rfl)) hpo
              have T' := Lib.hid (T.out.skip hsp)
              rw [← Htake.out] at T'
              clear hsp hap hp hpm hpv T hpo hal
              go_wp2
              go_roundw
              case rel => exact ⟨q + 1, d, up, rfl, by go_num, by omega, T', rfl⟩
              case measure => simp [intOf]; omega
          · have hqe : q = P.length := by omega
            have hge : ¬ (q : Int) < P.length := by omega
            have T2 := T.out
            rw [hqe, List.take_length] at T2
            obtain ⟨u, hu, M⟩ := T2.all HPk2.out HPk3.out Htp.out.1 Htp.out.2
            subst hu
            have HM := Lib.hid M
            clear hqe hql T T2 M
            by_cases hsame : idOf idl k = some u
            · have hv := idOf_some hsame
              rw [getD_neg (by rw [Hidl.out]; exact hkn)] at hv
              rw [hv] at yv
              have S' := Lib.hid (S.out.same HH.out.1 Hkk.out.1 Hkk.out.2.1 Hkk.out.2.2 hsame HM.out)
              clear hsame hv S
              go_wp2
              go_roundw
              case rel => exact ⟨ch, j + 1, idl, _, rfl, by go_num, by omega, S', bi, bb1, bb2, grownN hg d⟩
              case measure => simp [intOf]; omega
            · have hv : idl.getD k 0 ≠ (u : Int) := fun e => hsame (by
               unfold idOf
               rw [getD_neg (by rw [Hidl.out]; exact hkn), e]
               rw [if_neg (by omega)]
               simp)
              have S' := Lib.hid (S.out.turn HH.out.1 Hkk.out.1 hkn Hkk.out.2.1 Hkk.out.2.2 HM.out hsame)
              have bi' := Lib.hid (ints_blk_set (w := wo.drewN d) bi k (u : Int))
              generalize idl.getD k 0 = vv at *
              have g1 : ((u : Int) != vv) = true := by
               have : (u : Int) ≠ vv := fun e => hv e.symm
               simpa using this
              have g2 : ((u : Int) == vv) = false := by
               have : (u : Int) ≠ vv := fun e => hv e.symm
               simpa using this
              clear hsame hv S
              go_wp2
              go_roundw
              case rel => exact ⟨true, j + 1, _, _, rfl, by go_num, by omega, S', bi'.out, Blk.far (w := wo.drewN d) bb1 (by show w.heap.size ≠ gi; omega) _, Blk.far (w := wo.drewN d) bb2 (by show w.heap.size + 1 ≠ gi; omega) _, (grownN hg d).trans (grown_setCell (wo.drewN d) ⟨gi, k, none⟩ _)⟩
              case measure => simp [intOf]; omega
       · have hje : j + 1 = order.length := by omega
         have S' : Hid (SetR E order pos tp n idl r R order.length ch) := Lib.hid (by rw [← hje]; exact S.out)
         have hge : ¬ (j : Int) < ((order.length - 1 : Nat) : Int) := by omega
         have hge2 : ¬ j < order.length - 1 := by omega
         have hge3 : ¬ (j : Int) < (order.length : Int) - 1 := by omega
         clear hje hjl S
         go_wp2
         cases ch with
         | false =>
           go_roundg 0
           case measure => omega
           case rel => exact ⟨false, idl, rfl, Lib.hid ⟨fun h => (by cases h), fun _ => ⟨r, R, S'.out⟩⟩, bi, bb1, bb2, hg⟩
         | true =>
           have hRl : R ≤ order.length := by
            by_cases h : order.length + 1 ≤ R
            · have := S'.out.few h
              cases this
            · omega
           go_roundg (order.length + 2 - (R + 1))
           case measure => omega
           case rel =>
            obtain ⟨O, hp0, _, _, _, hposl⟩ := HH.out
            exact ⟨true, idl, rfl, Lib.hid ⟨fun _ => ⟨_, R + 1, S'.out.again O hp0 hposl, by omega, Nat.le_refl _⟩, fun h => (by cases h)⟩, bi, bb1, bb2, hg⟩
end Go.Proofs.YtjjmpfmhggcjiaaGreatDoor
