/-
 TxQ.
-/
import Derived.Lib.QuoteLoop
set_option linter.unusedSimpArgs false
set_option linter.unusedVariables false
namespace Go.Proofs.YtjjmpfmhggcjiaaGreatDoor
open Go.RowKit
def unhex (d : Int) : Int := if d ≤ 57 then d - 48 else d - 87
theorem unhex_hex {x : Nat} (h : x < 16) : unhex (Lib.hexDigit x) = (x : Int) := by
 unfold unhex Lib.hexDigit
 split <;> split <;> omega
def hx2 : List Int → Option (Int × List Int)
 | x :: y :: t => some (if unhex x * 16 + unhex y < 128 then unhex x * 16 + unhex y else -1 - (unhex x * 16 + unhex y), t)
 | _ => none
def hx4 : List Int → Option (Int × List Int)
 | x :: y :: z :: u :: t => some (unhex x * 4096 + unhex y * 256 + unhex z * 16 + unhex u, t)
 | _ => none
def hx8 : List Int → Option (Int × List Int)
 | x1 :: x2 :: x3 :: x4 :: x5 :: x6 :: x7 :: x8 :: t => some (unhex x1 * 268435456 + unhex x2 * 16777216 + unhex x3 * 1048576 + unhex x4 * 65536 + unhex x5 * 4096 + unhex x6 * 256 + unhex x7 * 16 + unhex x8, t)
 | _ => none
def un2 (b : Int) : List Int → Option (Int × List Int)
 | x :: t => some ((b - 192) * 64 + (x - 128), t)
 | _ => none
def un3 (b : Int) : List Int → Option (Int × List Int)
 | x :: y :: t => some ((b - 224) * 4096 + (x - 128) * 64 + (y - 128), t)
 | _ => none
def un4 (b : Int) : List Int → Option (Int × List Int)
 | x :: y :: z :: t => some ((b - 240) * 262144 + (x - 128) * 4096 + (y - 128) * 64 + (z - 128), t)
 | _ => none
def unU (b : Int) (t : List Int) : Option (Int × List Int) := if b < 128 then some (b, t) else if b < 224 then un2 b t else if b < 240 then un3 b t else un4 b t
def unE : List Int → Option (Int × List Int)
 | [] => none
 | c :: t =>
   if c = 34 ∨ c = 92 then some (c, t)
   else if c = 97 then some (7, t) else if c = 98 then some (8, t) else if c = 102 then some (12, t) else if c = 110 then some (10, t)
   else if c = 114 then some (13, t) else if c = 116 then some (9, t) else if c = 118 then some (11, t)
   else if c = 120 then hx2 t else if c = 117 then hx4 t else hx8 t
/-- What one step of a quoted text stands for: a rune, or (less than nothing) a byte of none; and what is behind. -/
def unq : List Int → Option (Int × List Int)
 | [] => none
 | b :: t => if b = 92 then unE t else unU b t
theorem unq_rune {r : Int} (h0 : 0 ≤ r) (hv : r < 55296 ∨ (57343 < r ∧ r ≤ 1114111)) (h92 : r ≠ 92) (X : List Int) : unq (Lib.encodeRuneZ r ++ X) = some (r, X) := by
 by_cases c1 : r ≤ 127
 · rw [Lib.encodeRuneZ_one h0 c1]
   show (if r = 92 then unE X else unU r X) = _
   rw [if_neg h92]
   unfold unU
   rw [if_pos (by omega)]
 · by_cases c2 : r ≤ 2047
   · rw [Lib.encodeRuneZ_two (by omega) c2]
     show (if 192 + r / 64 = 92 then _ else unU (192 + r / 64) ((128 + r % 64) :: X)) = _
     rw [if_neg (by omega)]
     unfold unU
     rw [if_neg (by omega), if_pos (by omega)]
     show some (_, X) = _
     congr 2
     omega
   · by_cases c3 : r ≤ 65535
     · rw [Lib.encodeRuneZ_three (by omega)]
       show (if 224 + r / 4096 = 92 then _ else unU (224 + r / 4096) ((128 + r / 64 % 64) :: (128 + r % 64) :: X)) = _
       rw [if_neg (by omega)]
       unfold unU
       rw [if_neg (by omega), if_neg (by omega), if_pos (by omega)]
       show some (_, X) = _
       congr 2
       omega
     · rw [Lib.encodeRuneZ_four (by omega) (by omega)]
       show (if 240 + r / 262144 = 92 then _ else unU (240 + r / 262144) ((128 + r / 4096 % 64) :: (128 + r / 64 % 64) :: (128 + r % 64) :: X)) = _
       rw [if_neg (by omega)]
       unfold unU
       rw [if_neg (by omega), if_neg (by omega), if_neg (by omega)]
       show some (_, X) = _
       congr 2
       omega
set_option maxRecDepth 4000 in
theorem unq_hex2 {v : Nat} (h : v < 256) (X : List Int) : unq ([92, 120, Lib.hexDigit (v / 16), Lib.hexDigit (v % 16)] ++ X) = some (if v < 128 then (v : Int) else -1 - (v : Int), X) := by
 show some (if unhex (Lib.hexDigit (v / 16)) * 16 + unhex (Lib.hexDigit (v % 16)) < 128 then unhex (Lib.hexDigit (v / 16)) * 16 + unhex (Lib.hexDigit (v % 16)) else -1 - (unhex (Lib.hexDigit (v / 16)) * 16 + unhex (Lib.hexDigit (v % 16))), X) = _
 rw [unhex_hex (x := v / 16) (by omega), unhex_hex (x := v % 16) (by omega)]
 congr 2
 split <;> split <;> omega
theorem unq_esc (T : Lib.PrintTabs) {r : Int} (h0 : 0 ≤ r) (hv : r < 55296 ∨ (57343 < r ∧ r ≤ 1114111)) (X : List Int) : unq (Lib.escRune T r ++ X) = some (r, X) := by
 unfold Lib.escRune
 by_cases c0 : r = 34 ∨ r = 92
 · rw [if_pos c0]
   show (if r = 34 ∨ r = 92 then some (r, X) else _) = _
   rw [if_pos c0]
 rw [if_neg c0]
 by_cases c1 : Lib.isPrintR T r = true
 · rw [if_pos c1]
   exact unq_rune h0 hv (by omega) X
 rw [if_neg c1]
 by_cases c2 : r = 7
 · rw [if_pos c2, c2]; rfl
 rw [if_neg c2]
 by_cases c3 : r = 8
 · rw [if_pos c3, c3]; rfl
 rw [if_neg c3]
 by_cases c4 : r = 12
 · rw [if_pos c4, c4]; rfl
 rw [if_neg c4]
 by_cases c5 : r = 10
 · rw [if_pos c5, c5]; rfl
 rw [if_neg c5]
 by_cases c6 : r = 13
 · rw [if_pos c6, c6]; rfl
 rw [if_neg c6]
 by_cases c7 : r = 9
 · rw [if_pos c7, c7]; rfl
 rw [if_neg c7]
 by_cases c8 : r = 11
 · rw [if_pos c8, c8]; rfl
 rw [if_neg c8]
 obtain ⟨v, rfl⟩ : ∃ v : Nat, r = (v : Int) := ⟨r.toNat, by omega⟩
 simp only [Int.toNat_natCast]
 by_cases c9 : (v : Int) < 32 ∨ (v : Int) = 127
 · rw [if_pos c9, unq_hex2 (by omega), if_pos (by omega)]
 rw [if_neg c9]
 have c10 : ¬ (Lib.validRune (v : Int) = false) := by
  simp only [Lib.validRune, decide_eq_false_iff_not]
  omega
 rw [if_neg c10]
 by_cases c11 : (v : Int) < 65536
 · rw [if_pos c11]
   show some (unhex (Lib.hexDigit (v / 16 ^ 3 % 16)) * 4096 + unhex (Lib.hexDigit (v / 16 ^ 2 % 16)) * 256 + unhex (Lib.hexDigit (v / 16 ^ 1 % 16)) * 16 + unhex (Lib.hexDigit (v / 16 ^ 0 % 16)), X) = _
   simp only [Nat.reducePow]
   rw [unhex_hex (x := v / 4096 % 16) (by omega), unhex_hex (x := v / 256 % 16) (by omega), unhex_hex (x := v / 16 % 16) (by omega), unhex_hex (x := v / 1 % 16) (by omega)]
   congr 2
   omega
 rw [if_neg c11]
 show some (unhex (Lib.hexDigit (v / 16 ^ 7 % 16)) * 268435456 + unhex (Lib.hexDigit (v / 16 ^ 6 % 16)) * 16777216 + unhex (Lib.hexDigit (v / 16 ^ 5 % 16)) * 1048576 + unhex (Lib.hexDigit (v / 16 ^ 4 % 16)) * 65536 + unhex (Lib.hexDigit (v / 16 ^ 3 % 16)) * 4096 + unhex (Lib.hexDigit (v / 16 ^ 2 % 16)) * 256 + unhex (Lib.hexDigit (v / 16 ^ 1 % 16)) * 16 + unhex (Lib.hexDigit (v / 16 ^ 0 % 16)), X) = _
 simp only [Nat.reducePow]
 rw [unhex_hex (x := v / 268435456 % 16) (by omega), unhex_hex (x := v / 16777216 % 16) (by omega), unhex_hex (x := v / 1048576 % 16) (by omega), unhex_hex (x := v / 65536 % 16) (by omega),
  unhex_hex (x := v / 4096 % 16) (by omega), unhex_hex (x := v / 256 % 16) (by omega), unhex_hex (x := v / 16 % 16) (by omega), unhex_hex (x := v / 1 % 16) (by omega)]
 congr 2
 omega
/-- What one step takes off a text, by what it stands for. -/
def takenZ (c : Int) : List Int := if c < 0 then [-1 - c] else Lib.encodeRuneZ c
def bytesZ (s : ByteArray) : List Int := s.data.toList.map fun b => (b.toNat : Int)
theorem bytesZ_take (s : ByteArray) (k : Nat) (h : k ≤ s.size) : (bytesZ s).take k = (List.range k).map fun i => ((s.get! i).toNat : Int) := by
 have hl : s.data.toList.length = s.size := rfl
 apply List.ext_getElem?
 intro i
 by_cases hi : i < k
 · have h1 : i < s.size := by omega
   have h2 : s.get! i = s.data.toList[i]'(by rw [hl]; exact h1) := by
    show s.data[i]! = _
    rw [getElem!_pos s.data i h1]
    simp
   simp [bytesZ, List.getElem?_take, hi, h2]
   exact ⟨_, Array.getElem?_eq_getElem h1, rfl⟩
 · simp [bytesZ, List.getElem?_take, hi]
theorem byte_lt (s : ByteArray) (i : Nat) : (s.get! i).toNat < 256 := UInt8.toNat_lt _
theorem quoteStep_says (T : Lib.PrintTabs) (s : ByteArray) (h : 0 < s.size) :
 ∃ c, (∀ X, unq (Lib.quoteStep T s ++ X) = some (c, X)) ∧ (bytesZ s).take (Utf8.decode s 0).2 = takenZ c := by
 have hw := Lib.width_le s h
 have hb0 := byte_lt s 0
 have hb1 := byte_lt s 1
 have hb2 := byte_lt s 2
 have hb3 := byte_lt s 3
 rw [bytesZ_take s _ hw]
 have hd := Lib.decode_at s 0
 simp only [Nat.zero_add, Nat.sub_zero] at hd
 unfold Lib.quoteStep
 generalize he : Utf8.decode s 0 = d at *
 obtain ⟨r, k⟩ := d
 simp only at hw ⊢
 generalize g0 : (s.get! 0).toNat = b0 at *
 generalize g1 : (s.get! 1).toNat = b1 at *
 generalize g2 : (s.get! 2).toNat = b2 at *
 generalize g3 : (s.get! 3).toNat = b3 at *
 unfold Lib.decodeN at hd
 have bad : b0 ≥ 128 → (r, k) = (65533, 1) → ∃ c, (∀ X, unq ((if k = 1 ∧ r = 65533 then [92, 120, Lib.hexDigit (b0 / 16), Lib.hexDigit (b0 % 16)] else Lib.escRune T (r : Int)) ++ X) = some (c, X)) ∧ (List.range k).map (fun i => ((s.get! i).toNat : Int)) = takenZ c := by
  intro hb e
  cases e
  refine ⟨-1 - (b0 : Int), fun X => ?_, ?_⟩
  · rw [if_pos ⟨rfl, rfl⟩, unq_hex2 hb0, if_neg (by omega)]
  · unfold takenZ
    rw [if_pos (by omega)]
    simp [List.range_succ, g0]
    omega
 have good : ∀ (_ : ¬ (k = 1 ∧ r = 65533)) (_ : r < 55296 ∨ (57343 < r ∧ r ≤ 1114111)), (List.range k).map (fun i => ((s.get! i).toNat : Int)) = Lib.encodeRuneZ (r : Int) → ∃ c, (∀ X, unq ((if k = 1 ∧ r = 65533 then [92, 120, Lib.hexDigit (b0 / 16), Lib.hexDigit (b0 % 16)] else Lib.escRune T (r : Int)) ++ X) = some (c, X)) ∧ (List.range k).map (fun i => ((s.get! i).toNat : Int)) = takenZ c := by
  intro h1 h2 h3
  refine ⟨(r : Int), fun X => ?_, ?_⟩
  · rw [if_neg h1]
    exact unq_esc T (by omega) (by omega) X
  · rw [h3]
    unfold takenZ
    rw [if_neg (by omega)]
 by_cases c1 : b0 < 128
 · rw [if_pos c1] at hd
   cases hd
   refine good (by omega) (by omega) ?_
   rw [Lib.encodeRuneZ_one (by omega) (by omega)]
   simp [List.range_succ, g0]
 rw [if_neg c1] at hd
 by_cases c2 : b0 / 32 = 6 ∧ (1 < s.size ∧ b1 / 64 = 2)
 · rw [if_pos c2] at hd
   by_cases c3 : b0 % 32 * 64 + b1 % 64 ≥ 128
   · rw [if_pos c3] at hd
     cases hd
     refine good (by omega) (by omega) ?_
     rw [Lib.encodeRuneZ_two (by omega) (by omega)]
     simp [List.range_succ, g0, g1]
     omega
   · rw [if_neg c3] at hd
     exact bad (by omega) hd
 rw [if_neg c2] at hd
 by_cases c4 : b0 / 16 = 14 ∧ (1 < s.size ∧ b1 / 64 = 2) ∧ (2 < s.size ∧ b2 / 64 = 2)
 · rw [if_pos c4] at hd
   split at hd
   · rename_i c5
     cases hd
     refine good (by omega) (by omega) ?_
     rw [Lib.encodeRuneZ_three (by omega)]
     simp [List.range_succ, g0, g1, g2]
     omega
   · exact bad (by omega) hd
 rw [if_neg c4] at hd
 by_cases c6 : b0 / 8 = 30 ∧ (1 < s.size ∧ b1 / 64 = 2) ∧ (2 < s.size ∧ b2 / 64 = 2) ∧ (3 < s.size ∧ b3 / 64 = 2)
 · rw [if_pos c6] at hd
   split at hd
   · rename_i c7
     cases hd
     refine good (by omega) (by omega) ?_
     rw [Lib.encodeRuneZ_four (by omega) (by omega)]
     simp [List.range_succ, g0, g1, g2, g3]
     omega
   · exact bad (by omega) hd
 rw [if_neg c6] at hd
 exact bad (by omega) hd
theorem bytesZ_inj {s s' : ByteArray} (h : bytesZ s = bytesZ s') : s = s' := by
 apply ByteArray.ext
 apply Array.toList_inj.1
 unfold bytesZ at h
 refine (List.map_inj_right (fun a b e => UInt8.toNat_inj.1 ?_)).1 h
 have e' : ((a.toNat : Nat) : Int) = ((b.toNat : Nat) : Int) := e
 omega
theorem bytesZ_drop (s : ByteArray) (k : Nat) (_ : k ≤ s.size) : bytesZ (s.extract k s.size) = (bytesZ s).drop k := by
 unfold bytesZ
 have e : (s.extract k s.size).data.toList = s.data.toList.drop k := by
  rw [ByteArray.data_extract]
  simp
  exact List.take_of_length_le (by simp)
 rw [e, List.map_drop]
theorem escRune_head (T : Lib.PrintTabs) (r : Int) : (Lib.escRune T r = Lib.encodeRuneZ r ∧ r ≠ 34) ∨ ∃ t, Lib.escRune T r = 92 :: t := by
 unfold Lib.escRune
 by_cases c0 : r = 34 ∨ r = 92
 · rw [if_pos c0]; exact .inr ⟨_, rfl⟩
 rw [if_neg c0]
 by_cases c1 : Lib.isPrintR T r = true
 · rw [if_pos c1]; exact .inl ⟨rfl, by omega⟩
 rw [if_neg c1]
 refine .inr ?_
 by_cases c2 : r = 7
 · rw [if_pos c2]; exact ⟨_, rfl⟩
 rw [if_neg c2]
 by_cases c3 : r = 8
 · rw [if_pos c3]; exact ⟨_, rfl⟩
 rw [if_neg c3]
 by_cases c4 : r = 12
 · rw [if_pos c4]; exact ⟨_, rfl⟩
 rw [if_neg c4]
 by_cases c5 : r = 10
 · rw [if_pos c5]; exact ⟨_, rfl⟩
 rw [if_neg c5]
 by_cases c6 : r = 13
 · rw [if_pos c6]; exact ⟨_, rfl⟩
 rw [if_neg c6]
 by_cases c7 : r = 9
 · rw [if_pos c7]; exact ⟨_, rfl⟩
 rw [if_neg c7]
 by_cases c8 : r = 11
 · rw [if_pos c8]; exact ⟨_, rfl⟩
 rw [if_neg c8]
 by_cases c9 : r < 32 ∨ r = 127
 · rw [if_pos c9]; exact ⟨_, rfl⟩
 rw [if_neg c9]
 by_cases c10 : Lib.validRune r = false
 · rw [if_pos c10]; exact ⟨_, rfl⟩
 rw [if_neg c10]
 by_cases c11 : r < 65536
 · rw [if_pos c11]; exact ⟨_, rfl⟩
 rw [if_neg c11]
 exact ⟨_, rfl⟩
theorem rune_head (r : Int) (h0 : 0 ≤ r) (h : r ≠ 34) : ∃ d t, Lib.encodeRuneZ r = d :: t ∧ d ≠ 34 := by
 unfold Lib.encodeRuneZ
 split
 · exact ⟨_, _, rfl, h⟩
 · split
   · exact ⟨_, _, rfl, by omega⟩
   · split
     · exact ⟨_, _, rfl, by omega⟩
     · split
       · exact ⟨_, _, rfl, by omega⟩
       · exact ⟨_, _, rfl, by omega⟩
theorem quoteStep_not34 (T : Lib.PrintTabs) (s : ByteArray) (X Y : List Int) : Lib.quoteStep T s ++ X ≠ 34 :: Y := by
 intro e
 unfold Lib.quoteStep at e
 split at e
 · simp at e
 · rcases escRune_head T ((Utf8.decode s 0).1 : Int) with ⟨h1, h2⟩ | ⟨t, h1⟩
   · obtain ⟨d, t, h3, h4⟩ := rune_head _ (by omega) h2
     rw [h1, h3] at e
     exact h4 (List.cons.inj e).1
   · rw [h1] at e
     have := (List.cons.inj e).1
     omega
theorem decode_pos (s : ByteArray) : 0 < (Utf8.decode s 0).2 := by
 rw [Lib.decode_at]
 unfold Lib.decodeN
 repeat' split
 all_goals (simp)
theorem quoteFrom_dec (T : Lib.PrintTabs) : ∀ (m : Nat) (s s' : ByteArray) (f f' : Nat) (r1 r2 : List Int), s.size ≤ m → s.size ≤ f → s'.size ≤ f' → Lib.quoteFrom T f s ++ (34 :: r1) = Lib.quoteFrom T f' s' ++ (34 :: r2) → s = s' ∧ r1 = r2
 | m, s, s', f, f', r1, r2, hm, hf, hf', e => by
   by_cases h : 0 < s.size
   · by_cases h' : 0 < s'.size
     · rw [Lib.quoteFrom_step T f s h hf, Lib.quoteFrom_step T f' s' h' hf', List.append_assoc, List.append_assoc] at e
       obtain ⟨c, hc, ht⟩ := quoteStep_says T s h
       obtain ⟨c', hc', ht'⟩ := quoteStep_says T s' h'
       have e1 := hc (Lib.quoteFrom T (f - 1) (s.extract (Utf8.decode s 0).2 s.size) ++ (34 :: r1))
       rw [e, hc'] at e1
       have e2 := Option.some.inj e1
       have ec : c' = c := congrArg Prod.fst e2
       have er := congrArg Prod.snd e2
       simp only at er
       subst ec
       have p1 := decode_pos s
       have p2 := decode_pos s'
       have w1 := Lib.width_le s h
       have w2 := Lib.width_le s' h'
       have sz1 := Lib.size_rest s (Utf8.decode s 0).2
       have sz2 := Lib.size_rest s' (Utf8.decode s' 0).2
       match m with
       | 0 => omega
       | m + 1 =>
         obtain ⟨h1, h2⟩ := quoteFrom_dec T m _ _ (f - 1) (f' - 1) r1 r2 (by omega) (by omega) (by omega) er.symm
         refine ⟨bytesZ_inj ?_, h2⟩
         have d1 := bytesZ_drop s _ w1
         have d2 := bytesZ_drop s' _ w2
         rw [h1] at d1
         rw [← List.take_append_drop (Utf8.decode s 0).2 (bytesZ s), ← List.take_append_drop (Utf8.decode s' 0).2 (bytesZ s'), ht, ht', ← d1, ← d2]
     · rw [Lib.quoteFrom_step T f s h hf, Lib.quoteFrom_end T f' s' h', List.append_assoc] at e
       exact absurd e (quoteStep_not34 T s _ _)
   · by_cases h' : 0 < s'.size
     · rw [Lib.quoteFrom_step T f' s' h' hf', Lib.quoteFrom_end T f s h, List.append_assoc] at e
       exact absurd e.symm (quoteStep_not34 T s' _ _)
     · rw [Lib.quoteFrom_end T f s h, Lib.quoteFrom_end T f' s' h'] at e
       refine ⟨?_, by simpa using e⟩
       apply bytesZ_inj
       have z : ∀ s : ByteArray, ¬ 0 < s.size → bytesZ s = [] := fun s h => by
        unfold bytesZ
        have : s.data.toList.length = s.size := rfl
        have : s.data.toList = [] := List.eq_nil_of_length_eq_zero (by omega)
        rw [this]
        rfl
       rw [z s h, z s' h']
theorem quote_dec (T : Lib.PrintTabs) (s s' : ByteArray) (r1 r2 : List Int) (e : Lib.quoteZ T s ++ r1 = Lib.quoteZ T s' ++ r2) : s = s' ∧ r1 = r2 := by
 unfold Lib.quoteZ at e
 simp only [List.cons_append, List.append_assoc, List.nil_append, List.cons.injEq, true_and] at e
 exact quoteFrom_dec T s.size s s' s.size s'.size r1 r2 (Nat.le_refl _) (Nat.le_refl _) (Nat.le_refl _) e
end Go.Proofs.YtjjmpfmhggcjiaaGreatDoor
