/-
  prog.names and prog.Name: the names of the instructions.
-/
import Derived.Test.YtcmlfaikdegbfaaGreatDoorPgZeros
import Derived.Test.YtcmlfaikdegbfaaGreatDoorFields
import Derived.Test.YtcmlfaikdegbfaaGreatDoorPgSmall
import Derived.Lib.AppendIntMem
import Derived.Deep.AppendLies
namespace Go.Proofs.YtcmlfaikdegbfaaGreatDoor
open Go.RowKit Go.Maps

theorem wpList_append_zeros {P : Program} {w : World} {ops : Array Oper} {rest : List Oper} {o : Oper} {a : Act} {Q : Exit → Act → World → Prop} (hw : Region.wanted o (yielded ops a.tmps) = true) (s x : Operand) (t tn : TypeId)
    (ho : o.op = .call { callee := .builtin .append, args := #[s, x], argTypes := #[t, tn] }) (base : Nat) (e : TypeId) (i : TypeInfo) (z0 : Value) (kq kn : IntKind) (ht : P.underlying t = some (.slice e)) (htn : P.underlying tn = some (.int kn)) (hi : P.info? e = some i) (hz : i.zero = some z0)
    (hzc : z0.cells = #[z0]) (hs1 : i.size = 1) (g n cap : Nat) (xs : List Value) (hs : a.eval s = .slice (some ⟨g, 0, none⟩) n cap) (hown : w.ownsRow base e 1 (.slice (some ⟨g, 0, none⟩) n cap) n xs) (k : Nat) (hx : a.eval x = .int kq k) (hk : 0 < k) (h1 : z0.oneCell' = true)
    (h63 : n + k ≤ maxLen) (hbytes : (n + k) * i.bytes ≤ 140737488355328) (hbase : base ≤ w.heap.size)
    (h : ∀ A' c' w', w'.ownsRow base e 1 (.slice A' (n + k) c') (n + k) (xs ++ List.replicate k z0) → w.grownBy w' (some g) → wpList P ops Q rest (a.put o.dst (.slice A' (n + k) c')) w') : wpList P ops Q (o :: rest) a w := by
  refine wpList_on hw fun K hK => ?_
  obtain ⟨A', c', w', hr, h2, h3⟩ := run_zeros_own (P := P) w base t tn o.type e i z0 kq kn ht htn hi hz hzc hs1 g n cap xs hown k hk h1 h63 hbytes hbase
  unfold Oper.wp execOp
  simp only [ho, resolve, invoke, builtin, Sem.run_bind, Sem.run_pure, Result.andThen_ok, List.map_toArray, List.map_cons, List.map_nil, hs, hx, hr]
  exact hK _ _ (h A' c' w' h2 h3)

def names1 : List ByteArray := [⟨#[99, 111, 110, 115, 116]⟩, ⟨#[110, 117, 108, 108]⟩, ⟨#[108, 111, 97, 100]⟩, ⟨#[115, 116, 111, 114, 101]⟩, ⟨#[100, 117, 112]⟩, ⟨#[112, 111, 112]⟩, ⟨#[115, 119, 97, 112]⟩, ⟨#[97, 100, 100]⟩, ⟨#[115, 117, 98]⟩, ⟨#[109, 117, 108]⟩, ⟨#[100, 105, 118]⟩, ⟨#[114, 101, 109]⟩, ⟨#[97, 110, 100]⟩, ⟨#[111, 114]⟩, ⟨#[120, 111, 114]⟩, ⟨#[115, 104, 108]⟩, ⟨#[115, 104, 114]⟩, ⟨#[110, 101, 103]⟩, ⟨#[108, 116]⟩, ⟨#[101, 113]⟩, ⟨#[115, 97, 109, 101]⟩, ⟨#[106, 117, 109, 112]⟩, ⟨#[122, 101, 114, 111]⟩, ⟨#[110, 101, 119]⟩, ⟨#[103, 101, 116]⟩, ⟨#[112, 117, 116]⟩, ⟨#[105, 115]⟩, ⟨#[97, 114, 114, 97, 121]⟩, ⟨#[101, 108, 101, 109]⟩, ⟨#[115, 101, 116]⟩, ⟨#[108, 101, 110]⟩, ⟨#[99, 97, 108, 108]⟩, ⟨#[114, 101, 116]⟩, ⟨#[105, 110]⟩, ⟨#[111, 117, 116]⟩]
def names2 : List ByteArray := [⟨#[112, 97, 114, 97, 109]⟩, ⟨#[112, 104, 105]⟩, ⟨#[112, 111, 108, 108]⟩, ⟨#[101, 110, 116, 101, 114]⟩, ⟨#[103, 117, 97, 114, 100]⟩, ⟨#[103, 111, 116, 111]⟩, ⟨#[98, 114, 97, 110, 99, 104]⟩, ⟨#[114, 101, 116, 117, 114, 110]⟩]
def txt1 : ByteArray := ⟨#[99, 111, 110, 115, 116, 32, 110, 117, 108, 108, 32, 108, 111, 97, 100, 32, 115, 116, 111, 114, 101, 32, 100, 117, 112, 32, 112, 111, 112, 32, 115, 119, 97, 112, 32, 97, 100, 100, 32, 115, 117, 98, 32, 109, 117, 108, 32, 100, 105, 118, 32, 114, 101, 109, 32, 97, 110, 100, 32, 111, 114, 32, 120, 111, 114, 32, 115, 104, 108, 32, 115, 104, 114, 32, 110, 101, 103, 32, 108, 116, 32, 101, 113, 32, 115, 97, 109, 101, 32, 106, 117, 109, 112, 32, 122, 101, 114, 111, 32, 110, 101, 119, 32, 103, 101, 116, 32, 112, 117, 116, 32, 105, 115, 32, 97, 114, 114, 97, 121, 32, 101, 108, 101, 109, 32, 115, 101, 116, 32, 108, 101, 110, 32, 99, 97, 108, 108, 32, 114, 101, 116, 32, 105, 110, 32, 111, 117, 116]⟩
def txt2 : ByteArray := ⟨#[112, 97, 114, 97, 109, 32, 112, 104, 105, 32, 112, 111, 108, 108, 32, 101, 110, 116, 101, 114, 32, 103, 117, 97, 114, 100, 32, 103, 111, 116, 111, 32, 98, 114, 97, 110, 99, 104, 32, 114, 101, 116, 117, 114, 110]⟩
def names48 : List ByteArray := ⟨#[]⟩ :: (names1 ++ (List.replicate 4 ⟨#[]⟩ ++ names2))
theorem nlen1 : names1.length = 35 := rfl
theorem nlen2 : names2.length = 8 := rfl
theorem fields1 : (Lib.fields txt1.data.toList).map (fun l => Value.string ⟨l.toArray⟩) = names1.map Value.string := by
  have h : (Lib.fields txt1.data.toList).map (fun l => (⟨l.toArray⟩ : ByteArray)) = names1 := by decide +kernel
  rw [← h, List.map_map]
  rfl
theorem fields2 : (Lib.fields txt2.data.toList).map (fun l => Value.string ⟨l.toArray⟩) = names2.map Value.string := by
  have h : (Lib.fields txt2.data.toList).map (fun l => (⟨l.toArray⟩ : ByteArray)) = names2 := by decide +kernel
  rw [← h, List.map_map]
  rfl
theorem flen1 : (Lib.fields txt1.data.toList).length = 35 := by decide +kernel
theorem flen2 : (Lib.fields txt2.data.toList).length = 8 := by decide +kernel
theorem asc1 : ∀ (j : Nat) b, txt1.data.toList[j]? = some b → b.toNat < 128 := ascii_of_all (by decide +kernel)
theorem asc2 : ∀ (j : Nat) b, txt2.data.toList[j]? = some b → b.toNat < 128 := ascii_of_all (by decide +kernel)
theorem infoStr : (Tryz.prog.info? 9).map (fun i => (i.zero, i.size, i.bytes)) = some (some (.string ByteArray.empty), 1, 16) := by kernel_rfl
abbrev Tab (w : World) : Prop := Lib.TabIs Tryz.prog w "strings.asciiSpace" .u8 Lib.asciiSpaceTab
set_option maxRecDepth 100000 in
theorem fields1_any (w : World) (ht : Tab w) : Calls Tryz.prog 46 #[.string txt1] w fun e w' => e = .returned (.slice (some ⟨w.heap.size, 0, none⟩) 35 35) ∧ w' = w.alloc (.cells ⟨names1.map Value.string⟩ 9) :=
  (Any.strings_Fields lays157 infoStr (by kernel_rfl) txt1 w (by decide) asc1 ht).mono fun e w' ⟨h1, h2⟩ => ⟨by rw [h1, flen1], by rw [h2, fields1]; rfl⟩
set_option maxRecDepth 100000 in
theorem fields2_any (w : World) (ht : Tab w) : Calls Tryz.prog 46 #[.string txt2] w fun e w' => e = .returned (.slice (some ⟨w.heap.size, 0, none⟩) 8 8) ∧ w' = w.alloc (.cells ⟨names2.map Value.string⟩ 9) :=
  (Any.strings_Fields lays157 infoStr (by kernel_rfl) txt2 w (by decide) asc2 ht).mono fun e w' ⟨h1, h2⟩ => ⟨by rw [h1, flen2], by rw [h2, fields2]; rfl⟩

def NamesPost (w : World) (e : Ending) (w' : World) : Prop := ∃ A c, e = .returned (.slice A 48 c) ∧ Rd w' w'.heap.size 1 A 48 (names48.map Value.string) ∧ Below w.heap.size w w'
set_option maxRecDepth 100000 in
set_option maxHeartbeats 1000000 in
theorem names_any (w : World) (ht : Tab w) : Calls Tryz.prog 27 #[] w (NamesPost w) := by
  have HT := Lib.hid (Lib.tabBelow_of_tabIs ht)
  obtain ⟨ii, hi1, hi2, hi3, hi4⟩ := info_parts infoStr
  have Hi1 := Lib.hid hi1
  have Hi2 := Lib.hid hi2
  have Hi3 := Lib.hid hi3
  have Hi4 := Lib.hid hi4
  clear hi1 hi2 hi3 hi4
  go_enter Tryz.func27, Tryz.ntmps27
  go_wp2_with fail
  refine (fields1_any _ (HT.out _ ((Below.refl _ _).alloc (Nat.le_refl _) _))).mono ?_
  rintro e w1 ⟨rfl, hw1⟩
  subst hw1
  have hown0 := World.ownsRow_lit (base := w.heap.size) (e := 9) (size := 1) w #[.string ⟨#[]⟩] 1 (Nat.le_refl _) (by unfold maxLen; omega) rfl
  have hnb1 : ((w.alloc (.cells #[.string ⟨#[]⟩] 9)).alloc (.cells ⟨names1.map Value.string⟩ 9)).heap[w.heap.size + 1]? = some (.cells ⟨names1.map Value.string⟩ 9 (0, 0)) := Blk.newAt (by simp) _ _
  go_upto_region 2 with (at_builtin
                         go_loud (refine wpList_append_lies _ rfl (.tmp 2) (.tmp 3) 28 rfl w.heap.size 9 ii _ 1 16 Tryz.underlying28 Hi1.out Hi2.out Hi3.out Hi4.out rfl (by omega) (.slice (some ⟨w.heap.size, 0, none⟩) 1 1) 1 [.string ⟨#[]⟩] rfl (hown0.alloc _) ⟨w.heap.size + 1, 0, none⟩ 35 35 (names1.map Value.string) rfl rfl (World.news_of_block hnb1) (by intro u hu; obtain ⟨s, _, rfl⟩ := List.mem_map.1 hu; rfl) (by omega) (by unfold maxLen; omega) (by omega) (by simp; omega) _ rfl ?_)
                         intro g1 cap1 w2 hown1 hgr1 hat1 hlt1)
  have hb2 := (((Below.refl w.heap.size w).alloc (Nat.le_refl _) (.cells #[.string ⟨#[]⟩] 9)).alloc (by simp) (.cells ⟨names1.map Value.string⟩ 9)).grown hgr1 (by simp; omega) (fun j hj => (hown0.lt j hj).1)
  have hz2 := hb2.size
  go_upto_region 3 with (at_builtin
                         go_loud (refine wpList_append_zeros rfl (.tmp 5) (.tmp 8) 28 3 rfl w.heap.size 9 ii _ .i64 .i64 Tryz.underlying28 Tryz.underlying3 Hi1.out Hi2.out rfl Hi3.out g1 36 cap1 _ rfl hown1 4 rfl (by omega) rfl (by unfold maxLen; omega) (by rw [Hi4.out]; omega) hz2 ?_)
                         intro A2 c2 w3 hown2 hgr2)
  have hb3 := hb2.grown hgr2 hz2 (fun j hj => (hown1.lt j hj).1)
  have hz3 := hb3.size
  go_wp2_with fail
  refine (fields2_any _ (HT.out _ hb3)).mono ?_
  rintro e w4 ⟨rfl, hw4⟩
  subst hw4
  have hnb2 : (w3.alloc (.cells ⟨names2.map Value.string⟩ 9)).heap[w3.heap.size]? = some (.cells ⟨names2.map Value.string⟩ 9 (0, 0)) := Blk.newAt rfl _ _
  go_wp2_with (at_builtin
               go_loud (refine wpList_append_lies _ rfl (.tmp 10) (.tmp 11) 28 rfl w.heap.size 9 ii _ 1 16 Tryz.underlying28 Hi1.out Hi2.out Hi3.out Hi4.out rfl (by omega) (.slice A2 40 c2) 40 _ rfl (hown2.alloc _) ⟨w3.heap.size, 0, none⟩ 8 8 (names2.map Value.string) rfl rfl (World.news_of_block hnb2) (by intro u hu; obtain ⟨s, _, rfl⟩ := List.mem_map.1 hu; rfl) (by omega) (by unfold maxLen; omega) (by omega) (by simp; omega) _ rfl ?_)
               intro g3 cap3 w5 hown3 hgr3 hat3 hlt3)
  go_ret
  have hb5 := (hb3.alloc hz3 (.cells ⟨names2.map Value.string⟩ 9)).grown hgr3 (by simp; omega) (fun j hj => (hown2.lt j hj).1)
  obtain ⟨A5, c5, hA5, hrd5⟩ := Rd.of_own hown3
  refine ⟨_, _, rfl, ?_, hb5⟩
  injection hA5 with hA5
  subst hA5
  have e : ([Value.string ⟨#[]⟩] ++ names1.map Value.string ++ List.replicate 4 (Value.string ByteArray.empty) ++ names2.map Value.string) = names48.map Value.string := by
    unfold names48
    simp
    rfl
  rw [← e]
  exact hrd5
/-- The name of a number. -/
def nameF (op : Int) : ByteArray := if inB op 48 = true then names48.getD op.toNat ⟨#[]⟩ else ⟨#[]⟩
set_option maxHeartbeats 400000 in
theorem name_any (op : Int) (w : World) (ht : Tab w) : Calls Tryz.prog 7 #[.int .i64 op] w fun e w' => e = .returned (.string (nameF op)) ∧ Below w.heap.size w w' := by
  have hn := Lib.hid (show nameF op = if inB op 48 = true then names48.getD op.toNat ⟨#[]⟩ else ⟨#[]⟩ from rfl)
  by_cases h0 : 0 ≤ op
  · by_cases h48 : op < 48
    · have hi : inB op 48 = true := by simp [inB]; omega
      obtain ⟨k, rfl⟩ : ∃ k : Nat, op = k := ⟨op.toNat, by omega⟩
      rw [hi] at hn
      have Hn := Lib.hid (show nameF k = names48.getD k ⟨#[]⟩ by rw [hn.out]; rfl)
      clear hn hi
      go_enter Tryz.func7, Tryz.ntmps7
      go_wp2_with fail
      refine (names_any _ ht).mono ?_
      rintro e w1 ⟨A, c, rfl, hrd, hb⟩
      have hk : k < names48.length := by show k < 48; omega
      obtain ⟨b, off, rfl, hbl, c1⟩ := str_at (l := names48) hrd hk
      generalize names48.getD k ⟨#[]⟩ = s at *
      have k1 : (k : Int) < 48 := by omega
      go_wp2
      go_ret
      exact ⟨ret_str Hn.out.symm, hb⟩
    · have hi : inB op 48 = false := by simp [inB]; omega
      rw [hi] at hn
      go_enter Tryz.func7, Tryz.ntmps7
      go_wp2_with fail
      refine (names_any _ ht).mono ?_
      rintro e w1 ⟨A, c, rfl, hrd, hb⟩
      go_wp2
      go_ret
      exact ⟨ret_str (by rw [hn.out]; rfl), hb⟩
  · have hi : inB op 48 = false := by simp [inB]; omega
    rw [hi] at hn
    go_enter Tryz.func7, Tryz.ntmps7
    go_wp2_with fail
    refine (names_any _ ht).mono ?_
    rintro e w1 ⟨A, c, rfl, hrd, hb⟩
    go_wp2
    go_ret
    exact ⟨ret_str (by rw [hn.out]; rfl), hb⟩
end Go.Proofs.YtcmlfaikdegbfaaGreatDoor
