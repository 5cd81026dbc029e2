/-
  The statements' own at and put: what places hold, as a list of pairs.
-/
import Derived.Test.YteapnfobcebpfaaDoorCyc
namespace Go.Proofs.YteapnfobcebpfaaDoor
open Go.RowKit Go.Maps Mov

def atF (h : List Mv) (p : Int) : Int := (lkup h p).getD p
def putF : List Mv → Int → Int → List Mv
  | [], p, v => [(p, v)]
  | q :: r, p, v => if q.1 = p then (p, v) :: r else q :: putF r p v
theorem toAt_zero (q : Mv) (r : List Mv) : toAt (q :: r) 0 = q.1 := rfl
theorem toAt_succ (q : Mv) (r : List Mv) (k : Nat) : toAt (q :: r) (k + 1) = toAt r k := by simp [toAt]
theorem frAt_zero (q : Mv) (r : List Mv) : frAt (q :: r) 0 = q.2 := rfl
theorem frAt_succ (q : Mv) (r : List Mv) (k : Nat) : frAt (q :: r) (k + 1) = frAt r k := by simp [frAt]
theorem atF_found {p : Int} : ∀ {h : List Mv} {k : Nat}, k < h.length → (∀ j, j < k → toAt h j ≠ p) → toAt h k = p → atF h p = frAt h k
  | [], _, hk, _, _ => by cases hk
  | q :: r, 0, _, _, he => by
    rw [toAt_zero] at he
    simp [atF, lkup, he, frAt_zero]
  | q :: r, k + 1, hk, hno, he => by
    have h0 := hno 0 (by omega)
    rw [toAt_zero] at h0
    rw [toAt_succ] at he
    have := atF_found (h := r) (k := k) (by simpa using hk) (fun j hj => by have := hno (j + 1) (by omega); rwa [toAt_succ] at this) he
    rw [frAt_succ, ← this]
    simp [atF, lkup, h0]
theorem atF_none {h : List Mv} {p : Int} (hno : ∀ j, j < h.length → toAt h j ≠ p) : atF h p = p := by
  have : lkup h p = none := by
    unfold lkup
    rw [Option.map_eq_none_iff, List.find?_eq_none]
    intro q hq
    obtain ⟨k, hk, e1, _⟩ := at_of_mem hq
    have := hno k hk
    rw [e1] at this
    simpa using this
  unfold atF
  rw [this]; rfl
theorem putF_found {p v : Int} : ∀ {h : List Mv} {k : Nat}, k < h.length → (∀ j, j < k → toAt h j ≠ p) → toAt h k = p → putF h p v = h.set k (p, v)
  | [], _, hk, _, _ => by cases hk
  | q :: r, 0, _, _, he => by
    rw [toAt_zero] at he
    simp [putF, he]
  | q :: r, k + 1, hk, hno, he => by
    have h0 := hno 0 (by omega)
    rw [toAt_zero] at h0
    rw [toAt_succ] at he
    have := putF_found (v := v) (h := r) (k := k) (by simpa using hk) (fun j hj => by have := hno (j + 1) (by omega); rwa [toAt_succ] at this) he
    simp [putF, h0, this]
theorem putF_none {p v : Int} : ∀ {h : List Mv}, (∀ j, j < h.length → toAt h j ≠ p) → putF h p v = h ++ [(p, v)]
  | [], _ => rfl
  | q :: r, hno => by
    have h0 := hno 0 (by simp)
    rw [toAt_zero] at h0
    have := putF_none (v := v) (h := r) (fun j hj => by have := hno (j + 1) (by simpa using hj); rwa [toAt_succ] at this)
    simp [putF, h0, this]
theorem atF_putF (h : List Mv) (p v x : Int) : atF (putF h p v) x = if x = p then v else atF h x := by
  induction h with
  | nil =>
    by_cases e : x = p
    · simp [putF, atF, lkup, e]
    · have e2 : ¬ p = x := fun h => e h.symm
      simp [putF, atF, lkup, e, e2]
  | cons q r ih =>
    unfold putF
    by_cases eq : q.1 = p
    · rw [if_pos eq]
      by_cases e : x = p
      · simp [atF, lkup, e]
      · have e2 : ¬ p = x := fun h => e h.symm
        simp [atF, lkup, e, e2, eq]
    · rw [if_neg eq]
      by_cases e : q.1 = x
      · have : ¬ x = p := fun h => eq (e.trans h)
        simp [atF, lkup, e, this]
      · have h1 : atF (q :: putF r p v) x = atF (putF r p v) x := by simp [atF, lkup, e]
        have h2 : atF (q :: r) x = atF r x := by simp [atF, lkup, e]
        rw [h1, h2, ih]
/-- The list of what places hold behind moves. -/
def haveF (o : List Mv) (h : List Mv) : List Mv := o.foldl (fun h m => putF h m.1 (atF h m.2)) h
theorem atF_have (o : List Mv) : ∀ (h : List Mv) (x : Int), atF (haveF o h) x = exec o (atF h) x := by
  induction o with
  | nil => intro h x; rfl
  | cons m r ih =>
    intro h x
    show atF (haveF r (putF h m.1 (atF h m.2))) x = exec r (fun y => if y = m.1 then atF h m.2 else atF h y) x
    rw [ih]
    congr 1
    funext y
    exact atF_putF h m.1 _ y
theorem keys_putF (h : List Mv) (p v : Int) : ∀ q ∈ putF h p v, q = (p, v) ∨ q ∈ h := by
  induction h with
  | nil => intro q hq; simp [putF] at hq; exact .inl hq
  | cons a r ih =>
    intro q hq
    unfold putF at hq
    by_cases e : a.1 = p
    · rw [if_pos e] at hq
      rcases List.mem_cons.1 hq with h1 | h1
      · exact .inl h1
      · exact .inr (List.mem_cons_of_mem _ h1)
    · rw [if_neg e] at hq
      rcases List.mem_cons.1 hq with h1 | h1
      · exact .inr (by rw [h1]; exact List.mem_cons_self)
      · rcases ih q h1 with h2 | h2
        · exact .inl h2
        · exact .inr (List.mem_cons_of_mem _ h2)
theorem keys_haveF (o : List Mv) : ∀ (h : List Mv), ∀ q ∈ haveF o h, (∃ m ∈ o, m.1 = q.1) ∨ ∃ p ∈ h, p.1 = q.1 := by
  induction o with
  | nil => intro h q hq; exact .inr ⟨q, hq, rfl⟩
  | cons m r ih =>
    intro h q hq
    rcases ih (putF h m.1 (atF h m.2)) q hq with ⟨m', hm', e⟩ | ⟨p, hp, e⟩
    · exact .inl ⟨m', List.mem_cons_of_mem _ hm', e⟩
    · rcases keys_putF _ _ _ p hp with h1 | h1
      · exact .inl ⟨m, List.mem_cons_self, by rw [← e, h1]⟩
      · exact .inr ⟨p, h1, e⟩
theorem len_putF (h : List Mv) (p v : Int) : (putF h p v).length ≤ h.length + 1 := by
  induction h with
  | nil => simp [putF]
  | cons a r ih =>
    unfold putF
    by_cases e : a.1 = p
    · rw [if_pos e]; simp
    · rw [if_neg e]; simp; omega
theorem len_haveF (o : List Mv) : ∀ (h : List Mv), (haveF o h).length ≤ h.length + o.length := by
  induction o with
  | nil => intro h; simp [haveF]
  | cons m r ih =>
    intro h
    have h1 := ih (putF h m.1 (atF h m.2))
    have h2 := len_putF h m.1 (atF h m.2)
    show (haveF r (putF h m.1 (atF h m.2))).length ≤ _
    simp only [List.length_cons]
    omega

/-- A row of pairs, each in a block of its own. -/
structure HR (w : World) (B : Nat) (A : Option Addr) (n c : Nat) (gs : List Nat) (h : List Mv) : Prop where
  own : w.ownsRow B 23 1 (.slice A n c) n (gs.map fun g => .slice (some ⟨g, 0, none⟩) 2 2)
  lg : gs.length = n
  lh : h.length = n
  blk : ∀ k g, gs[k]? = some g → Blk w g 3 #[.int .i64 (toAt h k), .int .i64 (frAt h k)]
  lo : ∀ g ∈ gs, B ≤ g
  nod : gs.Nodup
theorem HR.nil (w : World) (B : Nat) : HR w B none 0 0 [] [] := ⟨World.ownsRow_nil _ _ _ _, rfl, rfl, fun k g h => (by simp at h), fun g h => (by cases h), List.nodup_nil⟩
theorem HR.kept {w w' : World} {B : Nat} {A : Option Addr} {n c : Nat} {gs : List Nat} {h : List Mv} (hr : HR w B A n c gs h) (hb : Below w.heap.size w w') : HR w' B A n c gs h := by
  have hg : w.grownBy w' none := ⟨hb.os, hb.tape, hb.output, hb.size, fun k hk _ => hb.block k hk⟩
  exact ⟨hr.own.kept hg (by cases hv : (Value.slice A n c).ownBlock <;> simp), hr.lg, hr.lh, fun k g hk => (hr.blk k g hk).grown hg (by simp), hr.lo, hr.nod⟩
theorem HR.at_ {w : World} {B : Nat} {A : Option Addr} {n c : Nat} {gs : List Nat} {h : List Mv} (hr : HR w B A n c gs h) {k : Nat} (hk : k < n) :
    ∃ ga g, A = some ⟨ga, 0, none⟩ ∧ gs[k]? = some g ∧ w.cell? ⟨ga, k, none⟩ = some (.slice (some ⟨g, 0, none⟩) 2 2) ∧ w.cell? ⟨g, 0, none⟩ = some (.int .i64 (toAt h k)) ∧ w.cell? ⟨g, 1, none⟩ = some (.int .i64 (frAt h k)) ∧ w.frozen? ⟨g, 1, none⟩ = false := by
  have hl := hr.lg
  have hg : gs[k]? = some (gs[k]'(by omega)) := List.getElem?_eq_getElem (by omega)
  have hb := hr.blk k _ hg
  rcases hr.own.2 with ⟨h1, h2⟩ | ⟨g, cap, cur, h1, _, _⟩
  · omega
  · injection h1 with h1 h2 h3
    subst h1
    refine ⟨g, _, rfl, hg, ?_, hb.at0, hb.at1, hb.frozen 1⟩
    have := hr.own.cells (g := g) rfl k (.slice (some ⟨gs[k]'(by omega), 0, none⟩) 2 2) (by simp [hg])
    have e1 : (⟨g, 0, none⟩ : Addr).add k = ⟨g, k, none⟩ := by
      unfold Addr.add
      by_cases hj : k = 0 <;> simp [hj]
    rwa [e1] at this

set_option maxHeartbeats 400000 in
theorem at_any (w : World) {B : Nat} {A : Option Addr} {n c : Nat} {gs : List Nat} {h : List Mv} (hr : HR w B A n c gs h) (hn : n ≤ 100000) (p : Int) :
    Calls Tryd.prog 13 #[.slice A n c, .int .i64 p] w fun e w' => e = .returned (.int .i64 (atF h p)) ∧ w = w' := by
  have hlh := Lib.hid hr.lh
  go_enter Tryd.func13, Tryd.ntmps13
  go_wp2
  go_loop [5] (fun i => ∃ k : Nat, k ≤ n ∧ i = .int .i64 k ∧ ∀ j, j < k → toAt h j ≠ p) (fun i => n - (intOf i).toNat)
  case atStart => exact ⟨0, Nat.zero_le _, rfl, fun j hj => by omega⟩
  case round =>
    obtain ⟨k, hk, rfl, hno⟩ := hrel
    have Hno := Lib.hid hno
    clear hno
    by_cases hlt : k < n
    · obtain ⟨ga, g, rfl, _, c1, c2, c3, _⟩ := hr.at_ hlt
      have k0 : (0 : Int) ≤ k := by omega
      have k1 : (k : Int) < n := by omega
      by_cases he : toAt h k = p
      · have heb : (toAt h k == p) = true := by simpa using he
        have He := Lib.hid he
        clear he
        go_wp2
        go_ret
        exact ⟨by rw [atF_found (by rw [hlh.out]; exact hlt) Hno.out He.out]; rfl, rfl⟩
      · have heb : (toAt h k == p) = false := by simpa using he
        have He := Lib.hid he
        clear he
        go_wp2
        go_round
        case rel => exact ⟨k + 1, by omega, by go_num, fun j hj => by
          by_cases e : j = k
          · subst e; exact He.out
          · exact Hno.out j (by omega)⟩
        case measure => simp [intOf]; omega
    · have e : k = n := by omega
      subst e
      go_wp2
      go_ret
      exact ⟨by rw [atF_none (by rw [hlh.out]; exact Hno.out)]; rfl, rfl⟩

theorem toAt_set {h : List Mv} {k j : Nat} {p v : Int} (hk : k < h.length) (he : toAt h k = p) : toAt (h.set k (p, v)) j = toAt h j := by
  unfold toAt at *
  by_cases e : j = k
  · subst e
    rw [List.getElem?_set_self hk, ← he]; rfl
  · rw [List.getElem?_set_ne (fun h => e h.symm)]
theorem frAt_set {h : List Mv} {k j : Nat} {p v : Int} (hk : k < h.length) : frAt (h.set k (p, v)) j = if j = k then v else frAt h j := by
  unfold frAt
  by_cases e : j = k
  · subst e
    rw [List.getElem?_set_self hk, if_pos rfl]; rfl
  · rw [List.getElem?_set_ne (fun h => e h.symm), if_neg e]
theorem toAt_snoc {h : List Mv} {j : Nat} {m : Mv} : toAt (h ++ [m]) j = if j = h.length then m.1 else toAt h j := by
  unfold toAt
  by_cases e : j = h.length
  · subst e; simp
  · rw [if_neg e]
    by_cases h1 : j < h.length
    · rw [List.getElem?_append_left h1]
    · rw [List.getElem?_append_right (by omega), List.getElem?_eq_none (by simp; omega), List.getElem?_eq_none (by omega)]
theorem frAt_snoc {h : List Mv} {j : Nat} {m : Mv} : frAt (h ++ [m]) j = if j = h.length then m.2 else frAt h j := by
  unfold frAt
  by_cases e : j = h.length
  · subst e; simp
  · rw [if_neg e]
    by_cases h1 : j < h.length
    · rw [List.getElem?_append_left h1]
    · rw [List.getElem?_append_right (by omega), List.getElem?_eq_none (by simp; omega), List.getElem?_eq_none (by omega)]

theorem HR.set {w : World} {B : Nat} {A : Option Addr} {n c : Nat} {gs : List Nat} {h : List Mv} (hr : HR w B A n c gs h) {k g : Nat} (hk : gs[k]? = some g) {p v : Int} (he : toAt h k = p) :
    HR (w.setCell ⟨g, 1, none⟩ (.int .i64 v)) B A n c gs (h.set k (p, v)) := by
  have hkl : k < h.length := by
    have := (List.getElem?_eq_some_iff.1 hk).1
    have := hr.lg; have := hr.lh; omega
  refine ⟨hr.own.kept (grown_setCell w _ _) (.inr ?_), hr.lg, by rw [List.length_set]; exact hr.lh, fun j g' hj => ?_, hr.lo, hr.nod⟩
  · exact (hr.blk k g hk).own_ne hr.own (by decide)
  · rw [toAt_set hkl he, frAt_set hkl]
    by_cases e : j = k
    · subst e
      rw [hk] at hj
      injection hj with hj
      subst hj
      rw [if_pos rfl]
      have := (hr.blk j g hk).set_ 1 (.int .i64 v)
      simpa using this
    · rw [if_neg e]
      refine (hr.blk j g' hj).far (p := ⟨g, 1, none⟩) (fun e2 => ?_) _
      subst e2
      exact e ((List.getElem?_inj (List.getElem?_eq_some_iff.1 hj).1 hr.nod).1 (hj.trans hk.symm))
theorem HR.more {w w1 : World} {B : Nat} {A A1 : Option Addr} {n c c1 : Nat} {gs : List Nat} {h : List Mv} (hr : HR w B A n c gs h) (hB : B ≤ w.heap.size) {p v : Int}
    (hg : ((w.alloc (.cells #[.int .i64 p, .int .i64 v] 3)).alloc (.cells #[.slice (some ⟨w.heap.size, 0, none⟩) 2 2] 23)).grownBy w1 (Value.slice A n c).ownBlock)
    (hown : w1.ownsRow B 23 1 (.slice A1 (n + 1) c1) (n + 1) ((gs.map fun g => .slice (some ⟨g, 0, none⟩) 2 2) ++ [.slice (some ⟨w.heap.size, 0, none⟩) 2 2])) :
    HR w1 B A1 (n + 1) c1 (gs ++ [w.heap.size]) (h ++ [(p, v)]) ∧ Below B w w1 := by
  have hlt : ∀ g ∈ gs, g < w.heap.size := fun g hm => by
    obtain ⟨k, hk, e⟩ := List.mem_iff_getElem.1 hm
    exact (hr.blk k g (by rw [List.getElem?_eq_getElem hk, e])).lt
  refine ⟨⟨by simpa using hown, by simp [hr.lg], by simp [hr.lh], fun j g hj => ?_, fun g hm => ?_, ?_⟩, ?_⟩
  · rw [toAt_snoc, frAt_snoc]
    have e1 : h.length = gs.length := hr.lh.trans hr.lg.symm
    by_cases e : j < gs.length
    · rw [List.getElem?_append_left e] at hj
      rw [if_neg (by omega), if_neg (by omega)]
      have hb := hr.blk j g hj
      exact ((hb.alloc _).alloc _).grown hg (Ne.symm (hb.own_ne hr.own (by decide)))
    · rw [List.getElem?_append_right (by omega)] at hj
      have h2 : j - gs.length = 0 := by
        have := (List.getElem?_eq_some_iff.1 hj).1
        simp at this; omega
      rw [h2] at hj
      simp at hj
      subst hj
      rw [if_pos (by omega), if_pos (by omega)]
      exact ((Blk.new w _ _).alloc _).grown hg (fun e => absurd (hr.own.lt _ e.symm).2 (by omega))
  · rcases List.mem_append.1 hm with h1 | h1
    · exact hr.lo g h1
    · rw [List.mem_singleton.1 h1]; exact hB
  · rw [List.nodup_append]
    refine ⟨hr.nod, by simp, fun a ha b hb e => ?_⟩
    rw [List.mem_singleton.1 hb] at e
    have := hlt a ha
    omega
  · exact (((Below.refl B w).alloc hB _).alloc (by simp; omega) _).grown hg (by simp; omega) (fun j hj => (hr.own.lt j hj).1)

theorem infoR : (Tryd.prog.info? 23).map (fun i => (i.zero, i.size, i.bytes)) = some (some (.slice none 0 0), 1, 24) := by kernel_rfl

def PutPost (w : World) (B : Nat) (h : List Mv) (e : Ending) (w' : World) : Prop := ∃ A' n' c' gs', e = .returned (.slice A' n' c') ∧ HR w' B A' n' c' gs' h ∧ Below B w w'
set_option maxHeartbeats 400000 in
theorem put_any (w : World) {B : Nat} {A : Option Addr} {n c : Nat} {gs : List Nat} {h : List Mv} (hr : HR w B A n c gs h) (hB : B ≤ w.heap.size) (hn : n ≤ 100000) (p v : Int) :
    Calls Tryd.prog 12 #[.slice A n c, .int .i64 p, .int .i64 v] w (PutPost w B (putF h p v)) := by
  have hlh := Lib.hid hr.lh
  go_enter Tryd.func12, Tryd.ntmps12
  go_wp2
  go_loop [7] (fun i => ∃ k : Nat, k ≤ n ∧ i = .int .i64 k ∧ ∀ j, j < k → toAt h j ≠ p) (fun i => n - (intOf i).toNat)
  case atStart => exact ⟨0, Nat.zero_le _, rfl, fun j hj => by omega⟩
  case round =>
    obtain ⟨k, hk, rfl, hno⟩ := hrel
    have Hno := Lib.hid hno
    clear hno
    by_cases hlt : k < n
    · obtain ⟨ga, g, rfl, hgk, c1, c2, c3, f3⟩ := hr.at_ hlt
      have Hgk := Lib.hid hgk
      clear hgk
      have k0 : (0 : Int) ≤ k := by omega
      have k1 : (k : Int) < n := by omega
      by_cases he : toAt h k = p
      · have heb : (toAt h k == p) = true := by simpa using he
        have He := Lib.hid he
        clear he
        go_wp2
        go_ret
        refine ⟨_, _, _, gs, rfl, ?_, (Below.refl B w).setCell (p := ⟨g, 1, none⟩) (hr.lo g (List.mem_of_getElem? Hgk.out)) _⟩
        rw [putF_found (by rw [hlh.out]; exact hlt) Hno.out He.out]
        exact hr.set Hgk.out He.out
      · have heb : (toAt h k == p) = false := by simpa using he
        have He := Lib.hid he
        clear he
        go_wp2
        go_round
        case rel => exact ⟨k + 1, by omega, by go_num, fun j hj => by
          by_cases e : j = k
          · subst e; exact He.out
          · exact Hno.out j (by omega)⟩
        case measure => simp [intOf]; omega
    · have e : k = n := by omega
      subst e
      have hput := putF_none (v := v) (h := h) (by rw [hlh.out]; exact Hno.out)
      have Hput := Lib.hid hput
      clear hput
      go_wp2_with (at_builtin
                   refine wpList_append_row rfl (.tmp 29) (.tmp 33) 33 rfl B 23 _ 1 24 Tryd.underlying33 infoR rfl (by omega) A c k (gs.map fun g => .slice (some ⟨g, 0, none⟩) 2 2) rfl ((hr.own.alloc _).alloc _) (w.heap.size + 1) 1 1 23 [.slice (some ⟨w.heap.size, 0, none⟩) 2 2] rfl (Blk.newAt (by simp) _ _) rfl (by intro u hu; simp at hu; rcases hu with rfl; rfl) (by unfold maxLen; omega) (by omega) (by simp; omega) ?_
                   intro A1 c1 w1 hown1 hg1 hat1)
      go_ret
      obtain ⟨q1, q2⟩ := hr.more hB hg1 hown1
      exact ⟨_, _, _, _, rfl, by rw [Hput.out]; exact q1, q2⟩
theorem at_same (w : World) {B : Nat} {A : Option Addr} {n c : Nat} {gs : List Nat} {h : List Mv} (hr : HR w B A n c gs h) (hn : n ≤ 100000) (p : Int) :
    Calls Tryd.prog 13 #[.slice A n c, .int .i64 p] w fun e w' => e = .returned (.int .i64 (atF h p)) ∧ w' = w := (at_any w hr hn p).mono fun _ _ ⟨h1, h2⟩ => ⟨h1, h2.symm⟩
theorem haveF_snoc (o : List Mv) (m : Mv) : haveF (o ++ [m]) [] = putF (haveF o []) m.1 (atF (haveF o []) m.2) := by simp [haveF, List.foldl_append]
theorem haveF_next {o : List Mv} {k : Nat} (hk : k < o.length) : haveF (o.take (k + 1)) [] = putF (haveF (o.take k) []) (toAt o k) (atF (haveF (o.take k) []) (frAt o k)) := by rw [take_mv hk, haveF_snoc]
theorem at_have (o : List Mv) (x : Int) : atF (haveF o []) x = exec o id x := atF_have o [] x
theorem HR.drew {w : World} {B : Nat} {A : Option Addr} {n c : Nat} {gs : List Nat} {h : List Mv} (hr : HR w B A n c gs h) : HR w.drew B A n c gs h := ⟨hr.own.drew, hr.lg, hr.lh, hr.blk, hr.lo, hr.nod⟩
theorem HR.drewN {w : World} {B : Nat} {A : Option Addr} {n c : Nat} {gs : List Nat} {h : List Mv} (hr : HR w B A n c gs h) {k : Nat} : HR (w.drewN k) B A n c gs h := ⟨hr.own, hr.lg, hr.lh, hr.blk, hr.lo, hr.nod⟩
end Go.Proofs.YteapnfobcebpfaaDoor
