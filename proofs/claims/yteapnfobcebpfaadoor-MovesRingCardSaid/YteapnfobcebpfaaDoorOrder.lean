/-
  moves.Order: what it answers of moves that may be: the list of the plain law.
-/
import Derived.Test.YteapnfobcebpfaaDoorDone
namespace Go.Proofs.YteapnfobcebpfaaDoor
open Go.RowKit Go.Maps Mov

/-- What the variables from and out hold. -/
structure PSt (w : World) (B pf po bf : Nat) (es out : List Mv) : Prop where
  hf : Blk w pf 44 #[.map (some bf)]
  ho : ∃ A c, Blk w po 22 #[.slice A out.length c] ∧ w.ownsRow B 31 2 (.slice A out.length c) out.length (mcells out)
  mf : ∃ n, n ≤ 1000 ∧ IMap w 3 EI bf n (lkup es)
  lo : B ≤ pf ∧ B ≤ po ∧ B ≤ bf
  wf : Wf es
theorem OSt.p {w : World} {B pf pa po bf ba : Nat} {es out : List Mv} (h : OSt w B pf pa po bf ba es out) : PSt w B pf po bf es out :=
  ⟨h.hf, h.ho, h.mf, ⟨h.lo.1, h.lo.2.2.1, h.lo.2.2.2.1⟩, h.wf⟩
theorem PSt.grown {w w' : World} {B pf po bf : Nat} {es out : List Mv} (h : PSt w B pf po bf es out) (hb : w.grownBy w' none) : PSt w' B pf po bf es out := by
  obtain ⟨A, c, h1, h2⟩ := h.ho
  obtain ⟨n, hn, h3⟩ := h.mf
  exact ⟨h.hf.grown hb (by simp), ⟨A, c, h1.grown hb (by simp), h2.kept hb (by cases hv : (Value.slice A out.length c).ownBlock <;> simp)⟩, ⟨n, hn, h3.kept hb (by simp)⟩, h.lo, h.wf⟩
theorem PSt.alloc {w : World} {B pf po bf : Nat} {es out : List Mv} (h : PSt w B pf po bf es out) (o : Obj) : PSt (w.alloc o) B pf po bf es out := h.grown (World.grownBy_alloc w o none)
/-- Another move at the end of what is put out. -/
theorem PSt.push {w w1 : World} {B pf po bf : Nat} {es out : List Mv} (h : PSt w B pf po bf es out) {A A1 : Option Addr} {c c1 : Nat} {x y : Int} (ho : Blk w po 22 #[.slice A out.length c]) (hown : w.ownsRow B 31 2 (.slice A out.length c) out.length (mcells out))
    (hg : (w.alloc (.cells #[.int .i64 x, .int .i64 y] 31)).grownBy w1 (Value.slice A out.length c).ownBlock) (hown1 : w1.ownsRow B 31 2 (.slice A1 (out.length + 1) c1) (out.length + 1) (mcells out ++ [.int .i64 x, .int .i64 y])) :
    w1.cell? ⟨po, 0, none⟩ = some (.slice A out.length c) ∧ w1.frozen? ⟨po, 0, none⟩ = false ∧ PSt (w1.setCell ⟨po, 0, none⟩ (.slice A1 (out.length + 1) c1)) B pf po bf es (out ++ [(x, y)]) ∧ Below B w (w1.setCell ⟨po, 0, none⟩ (.slice A1 (out.length + 1) c1)) ∧ w.heap.size < (w1.setCell ⟨po, 0, none⟩ (.slice A1 (out.length + 1) c1)).heap.size := by
  have ho1 := (ho.alloc (.cells #[.int .i64 x, .int .i64 y] 31)).grown hg (Ne.symm (ho.own_ne hown (by decide)))
  have hf1 := (h.hf.alloc (.cells #[.int .i64 x, .int .i64 y] 31)).grown hg (Ne.symm (h.hf.own_ne hown (by decide)))
  obtain ⟨n, hn, mf⟩ := h.mf
  have mf1 := (mf.alloc (.cells #[.int .i64 x, .int .i64 y] 31)).kept hg (mf.own_ne hown)
  have hsz := hg.size
  simp at hsz
  have hz2 : w.heap.size < (w1.setCell ⟨po, 0, none⟩ (.slice A1 (out.length + 1) c1)).heap.size := by simp [World.setCell]; omega
  refine ⟨ho1.at0, ho1.frozen 0, ⟨hf1.far (p := ⟨po, 0, none⟩) (h.hf.ne_ ho (by decide)) _, ⟨A1, c1, ?_, ?_⟩, ⟨n, hn, mf1.setCell (p := ⟨po, 0, none⟩) (mf.ne_blk ho) _⟩, h.lo, h.wf⟩, ?_, hz2⟩
  · have := ho1.set_ 0 (.slice A1 (out.length + 1) c1)
    simpa using this
  · have := hown1.kept (grown_setCell w1 ⟨po, 0, none⟩ (.slice A1 (out.length + 1) c1)) (.inr (ho1.own_ne hown1 (by decide)))
    rw [mcells_snoc]
    simpa using this
  · have hB : B ≤ w.heap.size := Nat.le_trans h.lo.2.1 (Nat.le_of_lt ho.lt)
    exact (((Below.refl B w).alloc hB _).grown hg (by simp; omega) (fun j hj => (hown.lt j hj).1)).setCell (p := ⟨po, 0, none⟩) h.lo.2.1 _
/-- An entry of from goes. -/
theorem PSt.gone {w w1 : World} {B pf po bf : Nat} {es out : List Mv} (h : PSt w B pf po bf es out) {n : Nat} {t : Int} (hn : n ≤ 1000) (mf : IMap w 3 EI bf n (lkup es)) (hg : w.grownBy w1 (some bf)) (mf1 : IMap w1 3 EI bf n (fdel (lkup es) t)) :
    PSt w1 B pf po bf (del es t) out ∧ Below B w w1 := by
  obtain ⟨A, c, h1, h2⟩ := h.ho
  refine ⟨⟨h.hf.grown hg (fun e => by injection e with e; exact mf.ne_blk h.hf e.symm), ⟨A, c, h1.grown hg (fun e => by injection e with e; exact mf.ne_blk h1 e.symm), h2.kept hg (.inr (Ne.symm (mf.own_ne h2)))⟩, ⟨n, hn, mf1.congr fun x _ => (lkup_del es t x).symm⟩, h.lo, h.wf.del t⟩, ?_⟩
  exact (Below.refl B w).grown hg (Nat.le_trans h.lo.1 (Nat.le_of_lt h.hf.lt)) (fun j hj => by injection hj with hj; have := h.lo; omega)

/-- The maps while they are filled. -/
structure BSt (w : World) (B pf pa bf ba : Nat) (l : List Mv) (k : Nat) : Prop where
  hf : Blk w pf 44 #[.map (some bf)]
  ha : Blk w pa 44 #[.map (some ba)]
  mf : IMap w 3 EI bf k (lkup (nonTriv (l.take k)))
  ma : ∃ g, IMap w 3 EI ba k g ∧ ∀ x, (g x).getD 0 = (asks (nonTriv (l.take k)) x : Int)
  lo : B ≤ pf ∧ B ≤ pa ∧ B ≤ bf ∧ B ≤ ba
  ne : bf ≠ ba
theorem start_maps (w w1 : World) (l : List Mv) (hb : Below w.heap.size w w1) :
    BSt ((((w1.alloc (.map #[] 0)).alloc (.cells #[.map (some w1.heap.size)] 44)).alloc (.map #[] 0)).alloc (.cells #[.map (some (w1.heap.size + 1 + 1))] 44)) w.heap.size (w1.heap.size + 1) (w1.heap.size + 1 + 1 + 1) w1.heap.size (w1.heap.size + 1 + 1) l 0 ∧
    Below w.heap.size w ((((w1.alloc (.map #[] 0)).alloc (.cells #[.map (some w1.heap.size)] 44)).alloc (.map #[] 0)).alloc (.cells #[.map (some (w1.heap.size + 1 + 1))] 44)) := by
  have hz := hb.size
  refine ⟨⟨((Blk.newAt (by simp) _ _).alloc _).alloc _, Blk.newAt (by simp) _ _, ?_, ?_, by omega, by omega⟩, (((hb.alloc hz _).alloc (by simp; omega) _).alloc (by simp; omega) _).alloc (by simp; omega) _⟩
  · exact (((((IMap.made w1 _ _).alloc _).alloc _).alloc _)).congr fun x _ => rfl
  · exact ⟨_, (IMap.madeAt (by simp) _ _).alloc _, fun x => rfl⟩
theorem BSt.below {w w' : World} {B pf pa bf ba k : Nat} {l : List Mv} (h : BSt w B pf pa bf ba l k) (hb : w.grownBy w' none) : BSt w' B pf pa bf ba l k := by
  obtain ⟨g, h4, h5⟩ := h.ma
  exact ⟨h.hf.grown hb (by simp), h.ha.grown hb (by simp), h.mf.kept hb (by simp), ⟨g, h4.kept hb (by simp), h5⟩, h.lo, h.ne⟩
theorem take_mv {l : List Mv} {k : Nat} (hk : k < l.length) : l.take (k + 1) = l.take k ++ [(toAt l k, frAt l k)] := by
  rw [List.take_succ_eq_append_getElem hk]
  congr 2
  unfold toAt frAt
  rw [List.getElem?_eq_getElem hk]
  rfl
theorem nonTriv_same {l : List Mv} {k : Nat} (hk : k < l.length) (e : toAt l k = frAt l k) : nonTriv (l.take (k + 1)) = nonTriv (l.take k) := by
  rw [take_mv hk]; simp [nonTriv, List.filter_append, e]
theorem nonTriv_more {l : List Mv} {k : Nat} (hk : k < l.length) (e : toAt l k ≠ frAt l k) : nonTriv (l.take (k + 1)) = nonTriv (l.take k) ++ [(toAt l k, frAt l k)] := by
  rw [take_mv hk]; simp [nonTriv, List.filter_append, e]
theorem lkup_snoc {es : List Mv} {t f : Int} (hno : t ∉ keys es) (x : Int) : lkup (es ++ [(t, f)]) x = fput (lkup es) t f x := by
  unfold fput
  by_cases e : x = t
  · rw [if_pos e]
    subst e
    have h1 : es.find? (fun p => p.1 == x) = none := by
      rw [List.find?_eq_none]
      intro p hp he
      exact hno (List.mem_map.2 ⟨p, hp, by simpa using he⟩)
    simp [lkup, List.find?_append, h1]
  · rw [if_neg e]
    have h2 : ¬ t = x := fun e2 => e e2.symm
    simp [lkup, List.find?_append, h2]
theorem asks_snoc (es : List Mv) (t f x : Int) : asks (es ++ [(t, f)]) x = asks es x + if f = x then 1 else 0 := by
  unfold asks
  by_cases e : f = x <;> simp [List.filter_append, e]
theorem not_before {l : List Mv} (hn : (keys l).Nodup) {k : Nat} (hk : k < l.length) : toAt l k ∉ keys (nonTriv (l.take k)) := by
  intro h
  obtain ⟨p, hp, hpe⟩ := List.mem_map.1 h
  have hp2 := (mem_nonTriv.1 hp).1
  have h1 : ((keys l).take (k + 1)).Nodup := hn.sublist (List.take_sublist _ _)
  rw [take_keys hk, List.nodup_append] at h1
  exact h1.2.2 p.1 (by unfold keys; rw [← List.map_take]; exact List.mem_map.2 ⟨p, hp2, rfl⟩) _ (List.mem_singleton.2 rfl) hpe
theorem mayF_nod {l : List Mv} (h : mayF l = 0) : (keys l).Nodup := by
  unfold mayF at h
  split at h
  · cases h
  · split at h
    · split at h
      · assumption
      · cases h
    · cases h

theorem start_out {w0 w : World} {B pf pa bf ba : Nat} {l : List Mv} (h : BSt w B pf pa bf ba l l.length) (hl : l.length ≤ 500) (hw : Wf l) (hb : Below B w0 w) (hB : B ≤ w.heap.size) :
    OSt (w.alloc (.cells #[.slice none 0 0] 22)) B pf pa w.heap.size bf ba (nonTriv l) [] ∧ Below B w0 (w.alloc (.cells #[.slice none 0 0] 22)) := by
  obtain ⟨g, ma, hg⟩ := h.ma
  have hl2 : (nonTriv l).length ≤ l.length := List.length_filter_le _ _
  have e1 : l.take l.length = l := List.take_length
  have lo := h.lo
  refine ⟨⟨h.hf.alloc _, h.ha.alloc _, ⟨none, 0, Blk.new _ _ _, World.ownsRow_nil _ _ _ _⟩, ⟨l.length, by omega, ?_⟩, ⟨l.length, g, ?_, ma.alloc _, ?_⟩, ⟨lo.1, lo.2.1, hB, lo.2.2.1, lo.2.2.2⟩, h.ne, by simp; omega, fun m hm => hw m (mem_nonTriv.1 hm).1⟩, hb.alloc hB _⟩
  · have := h.mf
    rw [e1] at this
    exact this.alloc _
  · omega
  · rw [e1] at hg; exact hg
theorem drop_keys {l : List Mv} {k : Nat} (hk : k < l.length) : (keys l).drop k = toAt l k :: (keys l).drop (k + 1) := by
  rw [List.drop_eq_getElem_cons (by simpa [keys] using hk)]
  congr 1
  simp [keys, toAt, List.getElem?_eq_getElem hk]

theorem turnF_end {es : List Mv} (hn : (keys es).Nodup) {to f sp : Int} (hm : (to, f) ∈ es) (hk : lkup (del es to) f = none) : turnF es.length es to f sp = (del es to, [(to, sp)]) := by
  have := del_len hn hm
  rw [← this]
  unfold turnF
  rw [hk]
theorem turnF_step {es : List Mv} (hn : (keys es).Nodup) {to f nx sp : Int} (hm : (to, f) ∈ es) (hk : lkup (del es to) f = some nx) :
    turnF es.length es to f sp = ((turnF (del es to).length (del es to) f nx sp).1, (to, f) :: (turnF (del es to).length (del es to) f nx sp).2) := by
  have := del_len hn hm
  rw [← this]
  conv => lhs; unfold turnF
  rw [hk]

def collB (l : List Mv) (sp : Int) : Bool := l.any fun m => m.1 == sp || m.2 == sp
theorem coll_not {l : List Mv} {sp : Int} : collB l sp = false ↔ ∀ p ∈ l, p.1 ≠ sp ∧ p.2 ≠ sp := by
  unfold collB
  rw [List.any_eq_false]
  simp
theorem coll_yes {l : List Mv} {sp : Int} {k : Nat} (hk : k < l.length) (h : toAt l k = sp ∨ frAt l k = sp) : collB l sp = true := by
  unfold collB
  rw [List.any_eq_true]
  exact ⟨_, at_mem hk, by simpa using h⟩

/-- What Order comes to where the spare place and the moves may be. -/
def OrderPost (a : Nat → Addr) (w : World) (l : List Mv) (sp : Int) (e : Ending) (w' : World) : Prop :=
  Below w.heap.size w w' ∧ ((collB l sp = true ∧ e = .returned (.tuple #[.slice none 0 0, sent (a 5)])) ∨
    (collB l sp = false ∧ ∃ A c, e = .returned (.tuple #[.slice A (orderF l sp).length c, .nilIface]) ∧ w'.ownsRow w.heap.size 31 2 (.slice A (orderF l sp).length c) (orderF l sp).length (mcells (orderF l sp))))

set_option maxRecDepth 100000 in
set_option maxHeartbeats 1000000 in
theorem order_some (a : Nat → Addr) (B : Nat) (A : Option Addr) (c : Nat) (l : List Mv) (sp : Int) (w : World) (h : Sent w B [1, 3, 5] a) (hB : B ≤ w.heap.size) (hr : Rd w w.heap.size 2 A l.length (mcells l)) (hw : Wf l)
    (hlen : l.length ≤ 500) (hp : plB sp = true) (hm : mayF l = 0) :
    Calls Tryd.prog 8 #[.slice A l.length c, .int .i64 sp] w (OrderPost a w l sp) := by
  have hmm := @run_makeMap Tryd.prog
  have hl1 : decide ((l.length : Int) ≤ 500) = true := by simp; omega
  have hmay := may_any a B A c l w h hB hr hw (by omega)
  rw [hm] at hmay
  have Hmay := Lib.hid hmay
  have Hm := Lib.hid hm
  clear hmay hm
  go_enter Tryd.func8, Tryd.ntmps8
  go_wp2_with (first | (go_at_call 15; refine (place_any _ _).mono ?_; rintro e w' ⟨rfl, rfl⟩) | (go_at_call 16; refine Hmay.out.mono ?_; rintro e w0 ⟨rfl, hb0⟩; simp only [errV]))
  go_loopw [40] (fun i wr => ∃ k : Nat, k ≤ l.length ∧ i = .int .i64 k ∧ (∀ j, j < k → toAt l j ≠ sp ∧ frAt l j ≠ sp) ∧ Below w.heap.size w wr) (fun i _ => l.length - (intOf i).toNat)
  case atStart => exact ⟨0, Nat.zero_le _, rfl, fun j hj => by omega, hb0⟩
  case round =>
    obtain ⟨k, hk, rfl, hall, hb⟩ := hrel
    have Hall := Lib.hid hall
    clear hall
    have hz := hb.size
    by_cases hlt : k < l.length
    · obtain ⟨b, off, rfl, hbl, c1, c2⟩ := moves_at (hr.below hb (Nat.le_refl _)) hlt
      have k0 : (0 : Int) ≤ k := by omega
      have k1 : (k : Int) < l.length := by omega
      have c3 := (h.below hb hB).cellA (Nat.le_trans hB hz) (k := 5) (by simp)
      simp only [gOf, sent] at c3
      by_cases h1 : toAt l k = sp
      · have h1b : (toAt l k == sp) = true := by simpa using h1
        have hcol := coll_yes hlt (.inl h1)
        have H1 := Lib.hid h1
        have Hcol := Lib.hid hcol
        clear h1 hcol
        go_wp2
        go_quiet (fail)
        go_wp2
        go_ret2
        exact ⟨below_drewN (hb.alloc hz _) _, .inl ⟨Hcol.out, rfl⟩⟩
      · have h1b : (toAt l k == sp) = false := by simpa using h1
        have H1 := Lib.hid h1
        clear h1
        by_cases h2 : frAt l k = sp
        · have h2b : (frAt l k == sp) = true := by simpa using h2
          have hcol := coll_yes hlt (.inr h2)
          have H2 := Lib.hid h2
          have Hcol := Lib.hid hcol
          clear h2 hcol
          go_wp2
          go_quiet (fail)
          go_wp2
          go_ret2
          exact ⟨below_drewN (hb.alloc hz _) _, .inl ⟨Hcol.out, rfl⟩⟩
        · have h2b : (frAt l k == sp) = false := by simpa using h2
          have H2 := Lib.hid h2
          clear h2
          go_wp2
          go_roundw
          case rel => exact ⟨k + 1, by omega, by go_num, fun j hj => by
            by_cases e : j = k
            · subst e; exact ⟨H1.out, H2.out⟩
            · exact Hall.out j (by omega), hb.alloc hz _⟩
          case measure => simp [intOf]; omega
    · have e : k = l.length := by omega
      subst e
      have hnod := mayF_nod Hm.out
      have hcoll : collB l sp = false := coll_not.2 fun p hp => by
        obtain ⟨j, hj, e1, e2⟩ := at_of_mem hp
        have := Hall.out j hj
        rw [e1, e2] at this
        exact this
      have Hcoll := Lib.hid hcoll
      have Hnod := Lib.hid hnod
      clear hcoll hnod
      go_wp2
      have hst := start_maps w wr l hb
      obtain ⟨w1, hw1⟩ : ∃ w1 : World, w1 = wr := ⟨_, rfl⟩
      rw [← hw1] at hst ⊢
      clear hw1 hb hz wr
      have Hst := Lib.hid hst
      clear hst
      go_loopw [60] (fun i w2 => ∃ k : Nat, k ≤ l.length ∧ i = .int .i64 k ∧ BSt w2 w.heap.size (w1.heap.size + 1) (w1.heap.size + 1 + 1 + 1) w1.heap.size (w1.heap.size + 1 + 1) l k ∧ Below w.heap.size w w2) (fun i _ => l.length - (intOf i).toNat)
      case atStart => exact ⟨0, Nat.zero_le _, rfl, Hst.out⟩
      case round =>
        obtain ⟨k, hk, rfl, hs, hb⟩ := hrel
        have hz := hb.size
        have cf := (hs.below (World.grownBy_alloc wr (.cells #[.int .i64 (toAt l k), .int .i64 (frAt l k)] 31) none)).hf.at0
        by_cases hlt : k < l.length
        · obtain ⟨b, off, rfl, hbl, c1, c2⟩ := moves_at (hr.below hb (Nat.le_refl _)) hlt
          have k0 : (0 : Int) ≤ k := by omega
          have k1 : (k : Int) < l.length := by omega
          have hwm := hw _ (at_mem hlt)
          by_cases he : toAt l k = frAt l k
          · have heb : (toAt l k != frAt l k) = false := by simpa using he
            have He := Lib.hid he
            clear he
            go_wp2
            go_roundw
            case rel =>
              obtain ⟨g, ma, hg⟩ := hs.ma
              refine ⟨k + 1, by omega, by go_num, ⟨hs.hf.alloc _, hs.ha.alloc _, ?_, ⟨g, (ma.alloc _).mono (by omega), ?_⟩, hs.lo, hs.ne⟩, hb.alloc hz _⟩
              · rw [nonTriv_same hlt He.out]; exact (hs.mf.alloc _).mono (by omega)
              · rw [nonTriv_same hlt He.out]; exact hg
            case measure => simp [intOf]; omega
          · have heb : (toAt l k != frAt l k) = true := by simpa using he
            have He := Lib.hid he
            clear he
            obtain ⟨g, ma, hg⟩ := hs.ma
            have Hg := Lib.hid hg
            clear hg
            have hne := hs.ne
            have hab : asks (nonTriv (l.take k)) (frAt l k) ≤ l.length := Nat.le_trans (asks_lt _) (Nat.le_trans (List.length_filter_le _ _) (by simp; omega))
            go_wp2_with (first
              | (at_mapUpdate
                 refine wpList_iupd rfl _ _ _ 44 rfl Tryd.underlying3 Tryd.underlying44 ma1 (by unfold maxLen; omega) rfl _ rfl hwm.2 ((asks (nonTriv (l.take k)) (frAt l k) : Int) + 1) rfl (wf64_of (by omega)) ?_
                 intro w3 ma3 hg3)
              | (at_mapUpdate
                 refine wpList_iupd rfl _ _ _ 44 rfl Tryd.underlying3 Tryd.underlying44 (hs.mf.alloc _) (by unfold maxLen; omega) rfl _ rfl hwm.1 (frAt l k) rfl hwm.2 ?_
                 intro w2 mf2 hg2
                 have ma1 := (ma.alloc (.cells #[.int .i64 (toAt l k), .int .i64 (frAt l k)] 31)).kept hg2 (by intro e; injection e with e; exact hne e.symm)
                 have ha2 := (hs.ha.alloc (.cells #[.int .i64 (toAt l k), .int .i64 (frAt l k)] 31)).grown hg2 (by intro e; injection e with e; exact hs.mf.ne_blk hs.ha e.symm)
                 have hf2 := (hs.hf.alloc (.cells #[.int .i64 (toAt l k), .int .i64 (frAt l k)] 31)).grown hg2 (by intro e; injection e with e; exact hs.mf.ne_blk hs.hf e.symm)
                 have hx2 := (Blk.new wr 31 #[.int .i64 (toAt l k), .int .i64 (frAt l k)]).grown hg2 (by intro e; injection e with e; exact absurd hs.mf.lt (by omega))
                 have cx0 := hx2.at0
                 have cx1 := hx2.at1
                 have ca2 := ha2.at0)
              | (at_lookup
                 refine wpList_ilook rfl _ _ 44 rfl Tryd.underlying3 Tryd.underlying44 ma1 rfl _ rfl hwm.2 (.int .i64 (asks (nonTriv (l.take k)) (frAt l k))) (by rw [← Hg.out]; rfl) ?_))
            go_roundw
            case rel =>
              refine ⟨k + 1, by omega, by go_num, ⟨hf2.grown hg3 ?_, ha2.grown hg3 ?_, (mf2.kept hg3 ?_).congr fun x _ => ?_, ⟨_, ma3, fun x => ?_⟩, hs.lo, hs.ne⟩, ?_⟩
              · intro e; injection e with e; exact ma1.ne_blk hf2 e.symm
              · intro e; injection e with e; exact ma1.ne_blk ha2 e.symm
              · intro e; injection e with e; exact hne e
              · rw [nonTriv_more hlt He.out, lkup_snoc (not_before Hnod.out hlt)]
              · rw [nonTriv_more hlt He.out, asks_snoc]
                unfold fput
                by_cases e : x = frAt l k
                · rw [if_pos e, if_pos e.symm, e]; simp
                · rw [if_neg e, if_neg (fun e2 => e e2.symm), Hg.out]; simp
              · have z2 := hg2.size
                simp at z2
                exact ((hb.alloc hz _).grown hg2 (by simp; omega) (fun j hj => by injection hj with hj; have := hs.lo; omega)).grown hg3 (by omega) (fun j hj => by injection hj with hj; have := hs.lo; omega)
            case measure => simp [intOf]; omega
        · have e : k = l.length := by omega
          subst e
          have hst := start_out hs hlen hw hb hz
          obtain ⟨w2, hw2⟩ : ∃ w2 : World, w2 = wr := ⟨_, rfl⟩
          go_wp2
          rw [← hw2] at hst ⊢
          clear hw2 hb hz hs cf hlt wr
          have Hst := Lib.hid hst
          clear hst
          go_loopw [83] (fun i w3 => ∃ (k : Nat) (es out : List Mv), k ≤ l.length ∧ i = .int .i64 k ∧ OSt w3 w.heap.size (w1.heap.size + 1) (w1.heap.size + 1 + 1 + 1) w2.heap.size w1.heap.size (w1.heap.size + 1 + 1) es out ∧ (keys es).Nodup ∧ Below w.heap.size w w3 ∧
            (donesF ((keys l).drop k) es).1 = restF l ∧ out ++ (donesF ((keys l).drop k) es).2 = (donesF (keys l) (nonTriv l)).2) (fun i _ => l.length - (intOf i).toNat)
          case atStart => exact ⟨0, _, _, Nat.zero_le _, rfl, Hst.out.1, nod_nonTriv Hnod.out, Hst.out.2, rfl, rfl⟩
          case round =>
            obtain ⟨k, es, out, hk, rfl, hs, hn, hb, he, ho⟩ := hrel
            have Hend := Lib.hid (And.intro he ho)
            clear he ho
            have hz := hb.size
            by_cases hlt : k < l.length
            · obtain ⟨b, off, rfl, hbl, c1, c2⟩ := moves_at (hr.below hb (Nat.le_refl _)) hlt
              have k0 : (0 : Int) ≤ k := by omega
              have k1 : (k : Int) < l.length := by omega
              have hwm := (hw _ (at_mem hlt)).1
              have hs1 := hs.below (World.grownBy_alloc wr (.cells #[.int .i64 (toAt l k), .int .i64 (frAt l k)] 31) none)
              go_wp2_with (go_at_call 17; refine (done_any _ _ _ _ _ _ _ _ _ _ hs1 hn hwm).mono ?_; rintro e w4 ⟨rfl, hs4, hn4, hb4⟩)
              go_roundw
              case rel =>
                have hend := Hend.out
                rw [drop_keys hlt, donesF_cons] at hend
                refine ⟨k + 1, _, _, by omega, by go_num, hs4, hn4, (hb.alloc hz _).trans hb4, hend.1, ?_⟩
                rw [← hend.2]; simp
              case measure => simp [intOf]; omega
            · have e : k = l.length := by omega
              subst e
              have hpost : out = (donesF (keys l) (nonTriv l)).2 ∧ es = restF l := by
                have hend := Hend.out
                rw [List.drop_eq_nil_of_le (by simp [keys]), donesF_nil] at hend
                exact ⟨by simpa using hend.2, hend.1⟩
              have hfin : out ++ lastF ((keys l).drop 0) es sp = orderF l sp := by rw [hpost.1, hpost.2]; rfl
              have hlen2 : out.length + 2 * es.length ≤ 2000 := by have := hs.len; omega
              have Hst := Lib.hid (And.intro hs.p (And.intro hn (And.intro hb (And.intro hlen2 hfin))))
              clear hpost hfin hlen2 hs hn hb hz hlt Hend
              go_wp2
              go_loopw [94] (fun i w3 => ∃ (k : Nat) (es out : List Mv), k ≤ l.length ∧ i = .int .i64 k ∧ PSt w3 w.heap.size (w1.heap.size + 1) w2.heap.size w1.heap.size es out ∧ (keys es).Nodup ∧ Below w.heap.size w w3 ∧ out.length + 2 * es.length ≤ 2000 ∧
                out ++ lastF ((keys l).drop k) es sp = orderF l sp) (fun i _ => l.length - (intOf i).toNat)
              case atStart => exact ⟨0, es, out, Nat.zero_le _, rfl, Hst.out⟩
              case round =>
                clear Hst
                obtain ⟨k, es, out, hk, rfl, hs, hn, hb, hlen2, hfin⟩ := hrel
                have Hfin := Lib.hid hfin
                clear hfin
                have hz := hb.size
                by_cases hlt : k < l.length
                · obtain ⟨b, off, rfl, hbl, c1, c2⟩ := moves_at (hr.below hb (Nat.le_refl _)) hlt
                  have k0 : (0 : Int) ≤ k := by omega
                  have k1 : (k : Int) < l.length := by omega
                  have hwm := (hw _ (at_mem hlt)).1
                  have hs1 := hs.alloc (.cells #[.int .i64 (toAt l k), .int .i64 (frAt l k)] 31)
                  have cf := hs1.hf.at0
                  obtain ⟨nf, hnf, mf⟩ := hs1.mf
                  cases hlk : lkup es (toAt l k) with
                  | none =>
                    have Hlk := Lib.hid hlk
                    clear hlk
                    go_wp2_with (at_lookup; refine wpList_ilook_ok rfl _ _ 44 rfl Tryd.underlying3 Tryd.underlying44 mf rfl _ rfl hwm (.int .i64 0) (by rw [Hlk.out]; rfl) false (by rw [Hlk.out]; rfl) ?_)
                    go_roundw
                    case rel =>
                      refine ⟨k + 1, es, out, by omega, by go_num, hs1, hn, hb.alloc hz _, hlen2, ?_⟩
                      have := Hfin.out
                      rw [drop_keys hlt, lastF_none Hlk.out] at this
                      exact this
                    case measure => simp [intOf]; omega
                  | some f =>
                    have hlm := lkup_some hlk
                    have Hlk := Lib.hid hlk
                    clear hlk
                    obtain ⟨A4, c4, ho, hown⟩ := hs.ho
                    have hx1 := Blk.new wr 31 #[.int .i64 (toAt l k), .int .i64 (frAt l k)]
                    have co := (ho.alloc (.cells #[.int .i64 (toAt l k), .int .i64 (frAt l k)] 31)).at0
                    have hpo := ho.lt
                    have hlo := hs.lo
                    go_wp2_with (first
                      | (at_lookup; refine wpList_ilook_ok rfl _ _ 44 rfl Tryd.underlying3 Tryd.underlying44 mf rfl _ rfl hwm (.int .i64 f) (by rw [Hlk.out]; rfl) true (by rw [Hlk.out]; rfl) ?_)
                      | (at_builtin
                         refine wpList_append_row rfl (.tmp 107) (.tmp 112) 22 rfl w.heap.size 31 _ 2 16 Tryd.underlying22 infoM rfl (by omega) A4 c4 out.length (mcells out) rfl ((hown.alloc _).alloc _) (wr.heap.size + 1) 1 1 31 [.int .i64 sp, .int .i64 (toAt l k)] rfl (Blk.newAt (by simp) _ _) rfl (by intro u hu; simp at hu; rcases hu with rfl | rfl <;> rfl) (by unfold maxLen; omega) (by omega) (by simp; omega) ?_
                         intro A5 c5 w5 hown5 hg5 hat5
                         obtain ⟨co5, fo5, hs5, hb5, hz5⟩ := hs1.push (ho.alloc _) (hown.alloc _) hg5 hown5
                         have hx5 := ((hx1.alloc _).grown hg5 (fun e => absurd (hown.lt _ e.symm).2 (by omega))).far (p := ⟨w2.heap.size, 0, none⟩) (show wr.heap.size ≠ w2.heap.size by omega) (.slice A5 (out.length + 1) c5)
                         have cx5 := hx5.at0
                         have cf5 := hs5.hf.at0))
                    have hfin2 : (out ++ [(sp, toAt l k)]) ++ ((turnF es.length es (toAt l k) f sp).2 ++ lastF ((keys l).drop (k + 1)) (turnF es.length es (toAt l k) f sp).1 sp) = orderF l sp := by
                      have := Hfin.out
                      rw [drop_keys hlt, lastF_some Hlk.out] at this
                      rw [← this]; simp
                    have hbw5 : Below w.heap.size w (w5.setCell ⟨w2.heap.size, 0, none⟩ (.slice A5 (out.length + 1) c5)) := (hb.alloc hz _).trans hb5
                    have Hst5 := Lib.hid (show ∃ (es' out' : List Mv) (to' f' : Int), es'.length = es.length ∧ (Value.int .i64 f = .int .i64 f') ∧ (Value.int .i64 (toAt l k) = .int .i64 to') ∧ wf64 f' ∧ wf64 to' ∧ (to', f') ∈ es' ∧ PSt (w5.setCell ⟨w2.heap.size, 0, none⟩ (.slice A5 (out.length + 1) c5)) w.heap.size (w1.heap.size + 1) w2.heap.size w1.heap.size es' out' ∧ (keys es').Nodup ∧ Below w.heap.size w (w5.setCell ⟨w2.heap.size, 0, none⟩ (.slice A5 (out.length + 1) c5)) ∧ out'.length + 2 * es'.length ≤ 2001 ∧
                      out' ++ ((turnF es'.length es' to' f' sp).2 ++ lastF ((keys l).drop (k + 1)) (turnF es'.length es' to' f' sp).1 sp) = orderF l sp from ⟨es, out ++ [(sp, toAt l k)], toAt l k, f, rfl, rfl, rfl, (hs.wf _ hlm).2, hwm, hlm, hs5, hn, hbw5, by simp; omega, hfin2⟩)
                    clear hfin2 hbw5 hs5 hs1 hx5 hx1 co5 fo5 cx5 cf5 hb5 hz5 hown5 hg5 hat5 co ho hown mf cf hlm hpo hb hz hs c1 c2
                    go_loopg [19, 21] es.length (fun n vf vt w6 => ∃ (es' out' : List Mv) (to' f' : Int), es'.length = n ∧ vf = .int .i64 f' ∧ vt = .int .i64 to' ∧ wf64 f' ∧ wf64 to' ∧ (to', f') ∈ es' ∧ PSt w6 w.heap.size (w1.heap.size + 1) w2.heap.size w1.heap.size es' out' ∧ (keys es').Nodup ∧ Below w.heap.size w w6 ∧ out'.length + 2 * es'.length ≤ 2001 ∧
                      out' ++ ((turnF es'.length es' to' f' sp).2 ++ lastF ((keys l).drop (k + 1)) (turnF es'.length es' to' f' sp).1 sp) = orderF l sp)
                    case atStart => exact Hst5.out
                    case round =>
                      clear Hst5
                      obtain ⟨es', out', to', f', rfl, rfl, rfl, hwf6, hwt, hm6, hs6, hn6, hb6, hlen6, hfin6⟩ := hrel
                      have Hfin6 := Lib.hid hfin6
                      have Hm6 := Lib.hid hm6
                      have hd6 := del_len hn6 hm6
                      have hz6 := hb6.size
                      clear hfin6 hm6
                      have cf6 := hs6.hf.at0
                      obtain ⟨nf6, hnf6, mf6⟩ := hs6.mf
                      cases hlk2 : lkup (del es' to') f' with
                      | none =>
                        have Hlk2 := Lib.hid hlk2
                        clear hlk2
                        go_wp2_with (first
                          | (at_delete
                             refine wpList_idel rfl _ _ 44 rfl Tryd.underlying3 Tryd.underlying44 mf6 rfl _ rfl hwt ?_
                             intro w7 mf7 hg7
                             obtain ⟨hs7, hb7⟩ := hs6.gone hnf6 mf6 hg7 mf7
                             obtain ⟨A7, c7, ho7, hown7⟩ := hs7.ho
                             have cf7 := hs7.hf.at0
                             have co7 := ho7.at0
                             have z7 := hb7.size
                             obtain ⟨n7, hn7, mg7⟩ := hs7.mf)
                          | (at_lookup; refine wpList_ilook_ok rfl _ _ 44 rfl Tryd.underlying3 Tryd.underlying44 mg7 rfl _ rfl hwf6 (.int .i64 0) (by rw [Hlk2.out]; rfl) false (by rw [Hlk2.out]; rfl) ?_)
                          | (at_builtin
                             refine wpList_append_row rfl (.tmp 126) (.tmp 130) 22 rfl w.heap.size 31 _ 2 16 Tryd.underlying22 infoM rfl (by omega) A7 c7 out'.length (mcells out') rfl (hown7.alloc _) w7.heap.size 1 1 31 [.int .i64 to', .int .i64 sp] rfl (Blk.new _ _ _) rfl (by intro u hu; simp at hu; rcases hu with rfl | rfl <;> rfl) (by unfold maxLen; omega) (by omega) (by simp; omega) ?_
                             intro A8 c8 w8 hown8 hg8 hat8
                             obtain ⟨co8, fo8, hs8, hb8, hz8⟩ := hs7.push ho7 hown7 hg8 hown8))
                        have hfin := Hfin6.out
                        rw [turnF_end hn6 Hm6.out Hlk2.out] at hfin
                        go_roundw
                        case rel => exact ⟨k + 1, del es' to', out' ++ [(to', sp)], by omega, by go_num, hs8, del_nodup hn6 to', (hb6.trans hb7).trans hb8, by simp; omega, by rw [← hfin]; simp⟩
                        case measure => simp [intOf]; omega
                      | some nx =>
                        have Hlk2 := Lib.hid hlk2
                        have hnx := (hs6.wf _ (mem_del.1 (lkup_some hlk2)).1).2
                        clear hlk2
                        go_wp2_with (first
                          | (at_delete
                             refine wpList_idel rfl _ _ 44 rfl Tryd.underlying3 Tryd.underlying44 mf6 rfl _ rfl hwt ?_
                             intro w7 mf7 hg7
                             obtain ⟨hs7, hb7⟩ := hs6.gone hnf6 mf6 hg7 mf7
                             obtain ⟨A7, c7, ho7, hown7⟩ := hs7.ho
                             have cf7 := hs7.hf.at0
                             have co7 := ho7.at0
                             have z7 := hb7.size
                             obtain ⟨n7, hn7, mg7⟩ := hs7.mf)
                          | (at_lookup; refine wpList_ilook_ok rfl _ _ 44 rfl Tryd.underlying3 Tryd.underlying44 mg7 rfl _ rfl hwf6 (.int .i64 nx) (by rw [Hlk2.out]; rfl) true (by rw [Hlk2.out]; rfl) ?_)
                          | (at_builtin
                             refine wpList_append_row rfl (.tmp 132) (.tmp 136) 22 rfl w.heap.size 31 _ 2 16 Tryd.underlying22 infoM rfl (by omega) A7 c7 out'.length (mcells out') rfl (hown7.alloc _) w7.heap.size 1 1 31 [.int .i64 to', .int .i64 f'] rfl (Blk.new _ _ _) rfl (by intro u hu; simp at hu; rcases hu with rfl | rfl <;> rfl) (by unfold maxLen; omega) (by omega) (by simp; omega) ?_
                             intro A8 c8 w8 hown8 hg8 hat8
                             obtain ⟨co8, fo8, hs8, hb8, hz8⟩ := hs7.push ho7 hown7 hg8 hown8))
                        have hfin := Hfin6.out
                        rw [turnF_step hn6 Hm6.out Hlk2.out] at hfin
                        go_roundg (del es' to').length
                        case measure => omega
                        case rel => exact ⟨del es' to', out' ++ [(to', f')], f', nx, rfl, rfl, rfl, hnx, hwf6, lkup_some Hlk2.out, hs8, del_nodup hn6 to', (hb6.trans hb7).trans hb8, by simp; omega, by rw [← hfin]; simp⟩
                · have e : k = l.length := by omega
                  subst e
                  obtain ⟨A4, c4, ho, hown⟩ := hs.ho
                  have co := ho.at0
                  have hfin := Hfin.out
                  rw [List.drop_eq_nil_of_le (by simp [keys])] at hfin
                  have e2 : out = orderF l sp := by rw [← hfin]; simp [lastF]
                  have E2 := Lib.hid e2
                  clear e2 hfin
                  go_wp2
                  go_ret2
                  refine ⟨hb, .inr ⟨Hcoll.out, A4, c4, ?_, ?_⟩⟩
                  · rw [← E2.out]; rfl
                  · rw [← E2.out]; exact hown
end Go.Proofs.YteapnfobcebpfaaDoor
