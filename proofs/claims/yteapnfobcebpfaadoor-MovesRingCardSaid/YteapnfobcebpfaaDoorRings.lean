/-
  The plain law of rings: as many rings are turned by the program as the statement's own count finds. No program in sight.
-/
import Derived.Test.YteapnfobcebpfaaDoorPure
namespace Go.Proofs.YteapnfobcebpfaaDoor.Mov

def toAt (l : List Mv) (k : Nat) : Int := (l[k]?.getD (0, 0)).1
def frAt (l : List Mv) (k : Nat) : Int := (l[k]?.getD (0, 0)).2
def nextTo (l : List Mv) (f : Int) : Nat → Option Nat
  | 0 => none
  | j + 1 => if toAt l j = f then some j else nextTo l f j
def chainF (l : List Mv) (i : Nat) : Nat → Nat → Nat → Bool → Bool
  | 0, _, _, _ => false
  | n + 1, k, step, first =>
    match nextTo l (frAt l k) l.length with
    | none => false
    | some j => if j = i then decide (0 < step) && first else chainF l i n j (step + 1) (first && decide (i < j))
def roundsTo (l : List Mv) : Nat → Nat
  | 0 => 0
  | i + 1 => roundsTo l i + if chainF l i (l.length + 1) i 0 true then 1 else 0
def roundsF (l : List Mv) : Nat := roundsTo l l.length

theorem at_mem {l : List Mv} {k : Nat} (h : k < l.length) : (toAt l k, frAt l k) ∈ l := by
  unfold toAt frAt
  rw [List.getElem?_eq_getElem h]
  exact List.getElem_mem h
theorem at_of_mem {l : List Mv} {p : Mv} (h : p ∈ l) : ∃ k, k < l.length ∧ toAt l k = p.1 ∧ frAt l k = p.2 := by
  obtain ⟨k, hk, e⟩ := List.mem_iff_getElem.1 h
  refine ⟨k, hk, ?_, ?_⟩
  · unfold toAt; rw [List.getElem?_eq_getElem hk, e]; rfl
  · unfold frAt; rw [List.getElem?_eq_getElem hk, e]; rfl
theorem toAt_inj {l : List Mv} (hl : (keys l).Nodup) {a b : Nat} (ha : a < l.length) (hb : b < l.length) (h : toAt l a = toAt l b) : a = b := by
  have h1 : (keys l)[a]? = some (toAt l a) := by
    unfold keys toAt
    rw [List.getElem?_map, List.getElem?_eq_getElem ha]; rfl
  have h2 : (keys l)[b]? = some (toAt l b) := by
    unfold keys toAt
    rw [List.getElem?_map, List.getElem?_eq_getElem hb]; rfl
  exact (List.getElem?_inj (by simpa [keys] using ha) hl).1 (by rw [h1, h2, h])
theorem nextTo_some {l : List Mv} {f : Int} : ∀ {n j : Nat}, nextTo l f n = some j → j < n ∧ toAt l j = f
  | 0, _, h => by cases h
  | n + 1, j, h => by
    unfold nextTo at h
    by_cases e : toAt l n = f
    · rw [if_pos e] at h
      injection h with h
      subst h
      exact ⟨by omega, e⟩
    · rw [if_neg e] at h
      have := nextTo_some h
      exact ⟨by omega, this.2⟩
theorem nextTo_of {l : List Mv} (hl : (keys l).Nodup) {f : Int} {j : Nat} (hf : toAt l j = f) : ∀ {n : Nat}, j < n → n ≤ l.length → nextTo l f n = some j
  | 0, h, _ => by omega
  | n + 1, h, hn => by
    unfold nextTo
    by_cases e : toAt l n = f
    · rw [if_pos e, toAt_inj hl (by omega) (by omega) (e.trans hf.symm)]
    · rw [if_neg e]
      have hne : j ≠ n := fun he => e (by rw [← he]; exact hf)
      exact nextTo_of hl hf (by omega) (by omega)

section
variable {l : List Mv} (hl : (keys l).Nodup)
include hl
theorem self_next {k : Nat} (hk : k < l.length) (h : toAt l k = frAt l k) : nextTo l (frAt l k) l.length = some k := nextTo_of hl h hk (Nat.le_refl _)
/-- An entry that goes on to another one is no standstill. -/
theorem edge {a b : Nat} (ha : a < l.length) (h : nextTo l (frAt l a) l.length = some b) (hne : b ≠ a) : (toAt l a, toAt l b) ∈ nonTriv l := by
  have hb := nextTo_some h
  refine mem_nonTriv.2 ⟨?_, fun e => hne ?_⟩
  · rw [hb.2]; exact at_mem ha
  · have := self_next hl ha (by rw [← hb.2]; exact e)
    rw [h] at this
    injection this
omit hl in
theorem chain_stuck {i k : Nat} (hk : k ≠ i) (h : nextTo l (frAt l k) l.length = some k) : ∀ (n step : Nat) (first : Bool), chainF l i n k step first = false
  | 0, _, _ => rfl
  | n + 1, step, first => by
    unfold chainF
    rw [h]
    simp only [if_neg hk]
    exact chain_stuck hk h n _ _
omit hl in
theorem chain_nodes {i : Nat} : ∀ (n k step : Nat) (first : Bool), k ≠ i → k < l.length → chainF l i n k step first = true →
    first = true ∧ ∃ S : List Nat, k ∈ S ∧ (∀ a ∈ S, a ≠ i ∧ a < l.length ∧ (a = k ∨ i < a)) ∧ (∀ a ∈ S, ∃ b, nextTo l (frAt l a) l.length = some b ∧ b ≠ a) ∧
      (∀ b ∈ S, b ≠ k → ∃ a ∈ S, nextTo l (frAt l a) l.length = some b) ∧ ∃ a ∈ S, nextTo l (frAt l a) l.length = some i
  | 0, _, _, _, _, _, h => by cases h
  | n + 1, k, step, first, hk, hlt, h => by
    unfold chainF at h
    cases hj : nextTo l (frAt l k) l.length with
    | none => rw [hj] at h; cases h
    | some j =>
      rw [hj] at h
      by_cases e : j = i
      · simp only [if_pos e, Bool.and_eq_true] at h
        subst e
        refine ⟨h.2, [k], by simp, fun a ha => ?_, fun a ha => ?_, fun b hb hne => ?_, k, by simp, hj⟩
        · rw [List.mem_singleton.1 ha]; exact ⟨hk, hlt, .inl rfl⟩
        · rw [List.mem_singleton.1 ha]; exact ⟨j, hj, fun e => hk e.symm⟩
        · exact absurd (List.mem_singleton.1 hb) hne
      · simp only [if_neg e] at h
        have hjl := (nextTo_some hj).1
        obtain ⟨h1, S, s1, s2, s3, s4, s5⟩ := chain_nodes n j (step + 1) _ e hjl h
        simp only [Bool.and_eq_true, decide_eq_true_eq] at h1
        have hjk : j ≠ k := by
          intro ejk
          subst ejk
          rw [chain_stuck e hj] at h
          cases h
        refine ⟨h1.1, k :: S, List.mem_cons_self, fun a ha => ?_, fun a ha => ?_, fun b hb hne => ?_, ?_⟩
        · rcases List.mem_cons.1 ha with e1 | e1
          · rw [e1]; exact ⟨hk, hlt, .inl rfl⟩
          · obtain ⟨q1, q2, q3⟩ := s2 a e1
            refine ⟨q1, q2, .inr ?_⟩
            rcases q3 with q3 | q3
            · rw [q3]; exact h1.2
            · exact q3
        · rcases List.mem_cons.1 ha with e1 | e1
          · rw [e1]; exact ⟨j, hj, hjk⟩
          · exact s3 a e1
        · rcases List.mem_cons.1 hb with e1 | e1
          · exact absurd e1 hne
          · by_cases e2 : b = j
            · exact ⟨k, List.mem_cons_self, by rw [e2]; exact hj⟩
            · obtain ⟨a, ha, hab⟩ := s4 b e1 e2
              exact ⟨a, List.mem_cons_of_mem _ ha, hab⟩
        · obtain ⟨a, ha, hab⟩ := s5
          exact ⟨a, List.mem_cons_of_mem _ ha, hab⟩

/-- A ring that is counted at i: places, each read by one of them, each moved. -/
structure Ring (l : List Mv) (i : Nat) (C : Int → Prop) : Prop where
  self : C (toAt l i)
  read : ∀ c, C c → ∃ b, C b ∧ (b, c) ∈ nonTriv l
  key : ∀ c, C c → ∃ d, (c, d) ∈ nonTriv l
  low : ∀ j, j < i → ¬ C (toAt l j)
theorem ring_of_chain {i : Nat} (hi : i < l.length) (h : chainF l i (l.length + 1) i 0 true = true) : ∃ C, Ring l i C := by
  unfold chainF at h
  cases hj : nextTo l (frAt l i) l.length with
  | none => rw [hj] at h; cases h
  | some j =>
    rw [hj] at h
    by_cases e : j = i
    · simp [e] at h
    · simp only [if_neg e] at h
      have hjl := (nextTo_some hj).1
      obtain ⟨h1, S, s1, s2, s3, s4, a5, ha5, s5⟩ := chain_nodes _ j _ _ e hjl h
      simp only [Bool.true_and, decide_eq_true_eq] at h1
      refine ⟨fun x => x = toAt l i ∨ ∃ a ∈ S, x = toAt l a, .inl rfl, ?_, ?_, ?_⟩
      · rintro c (rfl | ⟨a, ha, rfl⟩)
        · exact ⟨toAt l a5, .inr ⟨a5, ha5, rfl⟩, edge hl (s2 a5 ha5).2.1 s5 (fun e => (s2 a5 ha5).1 e.symm)⟩
        · by_cases e2 : a = j
          · subst e2
            exact ⟨toAt l i, .inl rfl, edge hl hi hj e⟩
          · obtain ⟨a', ha', hab⟩ := s4 a ha e2
            obtain ⟨b', hb', hne⟩ := s3 a' ha'
            rw [hab] at hb'
            injection hb' with hb'
            subst hb'
            exact ⟨toAt l a', .inr ⟨a', ha', rfl⟩, edge hl (s2 a' ha').2.1 hab hne⟩
      · rintro c (rfl | ⟨a, ha, rfl⟩)
        · exact ⟨_, edge hl hi hj e⟩
        · obtain ⟨b', hb', hne⟩ := s3 a ha
          exact ⟨_, edge hl (s2 a ha).2.1 hb' hne⟩
      · rintro j' hj' (e2 | ⟨a, ha, e2⟩)
        · have := toAt_inj hl (by omega) hi e2
          omega
        · have h3 := s2 a ha
          have := toAt_inj hl (by omega) h3.2.1 e2
          rcases h3.2.2 with h4 | h4 <;> omega

/-- What the first phase leaves of a ring: all of it. -/
theorem done_keep {C : Int → Prop} (hr : ∀ c, C c → ∃ b, C b ∧ (b, c) ∈ nonTriv l) (n : Nat) : ∀ (es : List Mv) (t : Int), (∀ p ∈ es, p ∈ nonTriv l) → (∀ c, C c → ∃ d, (c, d) ∈ es) →
    ∀ c, C c → ∃ d, (c, d) ∈ (doneF n es t).1 := by
  induction n with
  | zero => intro es t _ hk; exact hk
  | succ n ih =>
    intro es t hs hk
    unfold doneF
    cases hf : lkup es t with
    | none => exact hk
    | some f =>
      by_cases h0 : asks es t = 0
      · simp only [if_pos h0]
        have hnot : ¬ C t := by
          intro hc
          obtain ⟨b, hb, hbn⟩ := hr t hc
          obtain ⟨d, hd⟩ := hk b hb
          have := key_inj (nod_nonTriv hl) (hs _ hd) hbn rfl
          rw [this] at hd
          exact asks_zero.1 h0 _ hd rfl
        refine ih _ _ (fun p hp => hs p (mem_del.1 hp).1) (fun c hc => ?_)
        obtain ⟨d, hd⟩ := hk c hc
        exact ⟨d, mem_del.2 ⟨hd, fun e => hnot (by rw [← (show c = t from e)]; exact hc)⟩⟩
      · simp only [if_neg h0]
        exact hk
omit hl in
theorem done_sub (n : Nat) : ∀ (es : List Mv) (t : Int), ∀ p ∈ (doneF n es t).1, p ∈ es := by
  induction n with
  | zero => intro es t p hp; exact hp
  | succ n ih =>
    intro es t p hp
    unfold doneF at hp
    cases hf : lkup es t with
    | none => rw [hf] at hp; exact hp
    | some f =>
      rw [hf] at hp
      by_cases h0 : asks es t = 0
      · simp only [if_pos h0] at hp
        exact (mem_del.1 (ih _ _ p hp)).1
      · simp only [if_neg h0] at hp
        exact hp
theorem dones_keep {C : Int → Prop} (hr : ∀ c, C c → ∃ b, C b ∧ (b, c) ∈ nonTriv l) (todo : List Int) : ∀ (es : List Mv), (∀ p ∈ es, p ∈ nonTriv l) → (∀ c, C c → ∃ d, (c, d) ∈ es) →
    ∀ c, C c → ∃ d, (c, d) ∈ (donesF todo es).1 := by
  induction todo with
  | nil => intro es _ hk; exact hk
  | cons t r ih =>
    intro es hs hk
    unfold donesF
    exact ih _ (fun p hp => hs p (done_sub _ _ _ p hp)) (done_keep hl hr _ _ _ hs hk)

omit hl in
theorem val_inj {es : List Mv} (hn : (vals es).Nodup) {p q : Mv} (hp : p ∈ es) (hq : q ∈ es) (h : p.2 = q.2) : p = q := by
  induction es with
  | nil => cases hp
  | cons x r ih =>
    unfold vals at hn ih
    rw [List.map_cons, List.nodup_cons] at hn
    rcases List.mem_cons.1 hp with rfl | hp' <;> rcases List.mem_cons.1 hq with rfl | hq'
    · rfl
    · exact absurd (List.mem_map.2 ⟨q, hq', h.symm⟩) hn.1
    · exact absurd (List.mem_map.2 ⟨p, hp', h⟩) hn.1
    · exact ih hn.2 hp' hq'
omit hl in
theorem turn_keep {C : Int → Prop} (n : Nat) : ∀ (es : List Mv) (to f sp : Int), (∀ p ∈ es, C p.2 → C p.1) → (to, f) ∈ es → ¬ C to → ∀ p ∈ es, C p.1 → p ∈ (turnF n es to f sp).1 := by
  induction n with
  | zero => intro es to f sp _ _ _ p hp _; exact hp
  | succ n ih =>
    intro es to f sp hb hm hto p hp hc
    have hpd : p ∈ del es to := mem_del.2 ⟨hp, fun e => hto (by rw [← e]; exact hc)⟩
    unfold turnF
    cases hk : lkup (del es to) f with
    | none => exact hpd
    | some nx => exact ih _ _ _ _ (fun q hq => hb q (mem_del.1 hq).1) (lkup_some hk) (fun hcf => hto (hb _ hm hcf)) p hpd hc
omit hl in
theorem turn_inv (n : Nat) : ∀ (es : List Mv) (t0 to f sp : Int), es.length ≤ n → (keys es).Nodup → (to, f) ∈ es → (to :: vals es).Perm (t0 :: keys es) →
    (keys (turnF n es to f sp).1).Nodup ∧ (vals (turnF n es to f sp).1).Perm (keys (turnF n es to f sp).1) ∧ (∀ p ∈ (turnF n es to f sp).1, p ∈ es ∧ p.1 ≠ to) ∧ (turnF n es to f sp).1.length ≤ es.length := by
  induction n with
  | zero =>
    intro es t0 to f sp hl _ hm _
    have : es = [] := List.eq_nil_of_length_eq_zero (by omega)
    subst this
    cases hm
  | succ n ih =>
    intro es t0 to f sp hl hn hm hp
    have hps := perm_step hn hm hp
    have hd := del_len hn hm
    unfold turnF
    cases hk : lkup (del es to) f with
    | none =>
      have hft := end_step hk hps
      subst hft
      exact ⟨del_nodup hn to, List.Perm.cons_inv hps, fun p hp => mem_del.1 hp, by simp only; omega⟩
    | some nx =>
      obtain ⟨g1, g2, g3, g4⟩ := ih (del es to) t0 f nx sp (by omega) (del_nodup hn to) (lkup_some hk) hps
      exact ⟨g1, g2, fun p hp => mem_del.1 (g3 p hp).1, by simp only; omega⟩

/-- A turn that begins at i is a ring that is counted at i. -/
theorem chain_run {i : Nat} (hi : i < l.length) (n : Nat) : ∀ (es : List Mv) (to f : Int) (k step : Nat), es.length ≤ n → (keys es).Nodup → (to :: vals es).Perm (toAt l i :: keys es) → (to, f) ∈ es →
    (∀ p ∈ es, p ∈ nonTriv l) → (∀ p ∈ es, p.1 ≠ toAt l i → ∀ j, j < l.length → toAt l j = p.1 → i < j) → k < l.length → toAt l k = to → (to ≠ toAt l i → 0 < step) → chainF l i n k step true = true := by
  induction n with
  | zero =>
    intro es to f k step hle _ _ hm
    have : es = [] := List.eq_nil_of_length_eq_zero (by omega)
    subst this
    cases hm
  | succ n ih =>
    intro es to f k step hle hn hp hm hs hlater hk hto hstep
    have hps := perm_step hn hm hp
    have hd := del_len hn hm
    have hmN := mem_nonTriv.1 (hs _ hm)
    have hfr : frAt l k = f := by
      have := key_inj hl (at_mem hk) hmN.1 hto
      exact congrArg Prod.snd this
    unfold chainF
    rw [hfr]
    by_cases e : f = toAt l i
    · rw [nextTo_of hl e.symm hi (Nat.le_refl _)]
      have := hstep (fun e2 => hmN.2 (by rw [e2, e]))
      simp [this]
    · have hin : f ∈ toAt l i :: keys (del es to) := hps.mem_iff.1 List.mem_cons_self
      rcases List.mem_cons.1 hin with e2 | e2
      · exact absurd e2 e
      · obtain ⟨p, hpm, hpe⟩ := List.mem_map.1 e2
        obtain ⟨hp1, hp2⟩ := mem_del.1 hpm
        obtain ⟨j, hj, hjt, _⟩ := at_of_mem (mem_nonTriv.1 (hs p hp1)).1
        have hjf : toAt l j = f := hjt.trans hpe
        rw [nextTo_of hl hjf hj (Nat.le_refl _)]
        have hji : j ≠ i := fun e3 => e (by rw [← hjf, e3])
        have hlt : i < j := hlater p hp1 (by rw [hpe]; exact e) j hj hjt
        simp only [if_neg hji, Bool.true_and, decide_eq_true hlt]
        refine ih (del es to) f p.2 j (step + 1) (by omega) (del_nodup hn to) hps ?_ (fun q hq => hs q (mem_del.1 hq).1) (fun q hq => hlater q (mem_del.1 hq).1) hj hjf (fun _ => by omega)
        rw [← hpe]; exact hpm

structure H (l es : List Mv) (i : Nat) : Prop where
  nod : (keys es).Nodup
  sub : ∀ p ∈ es, p ∈ nonTriv l
  perm : (vals es).Perm (keys es)
  len : es.length ≤ l.length
  gone : ∀ j, j < i → ∀ p ∈ es, p.1 ≠ toAt l j
  heads : ∀ i', i ≤ i' → i' < l.length → chainF l i' (l.length + 1) i' 0 true = true → ∃ C, Ring l i' C ∧ ∀ c, C c → ∃ d, (c, d) ∈ es

theorem H.rounds : ∀ (r i : Nat) (es : List Mv), i + r = l.length → H l es i → cycF ((keys l).drop i) es + roundsTo l i = roundsTo l l.length := by
  intro r
  induction r with
  | zero =>
    intro i es hi h
    have : i = l.length := by omega
    subst this
    have : (keys l).drop l.length = [] := by simp [keys]
    rw [this]
    simp [cycF]
  | succ r ih =>
    intro i es hi h
    have hil : i < l.length := by omega
    have hdrop : (keys l).drop i = toAt l i :: (keys l).drop (i + 1) := by
      rw [List.drop_eq_getElem_cons (by simpa [keys] using hil)]
      congr 1
      simp [keys, toAt, List.getElem?_eq_getElem hil]
    rw [hdrop]
    unfold cycF
    have hro : roundsTo l (i + 1) = roundsTo l i + if chainF l i (l.length + 1) i 0 true then 1 else 0 := rfl
    cases hk : lkup es (toAt l i) with
    | none =>
      have hno : chainF l i (l.length + 1) i 0 true = false := by
        cases hc : chainF l i (l.length + 1) i 0 true with
        | false => rfl
        | true =>
          obtain ⟨C, hC, hin⟩ := h.heads i (Nat.le_refl _) hil hc
          obtain ⟨d, hd⟩ := hin _ hC.self
          exact absurd hd (lkup_none hk d)
      have := ih (i + 1) es (by omega) ⟨h.nod, h.sub, h.perm, h.len, fun j hj p hp e => by
        by_cases e2 : j = i
        · subst e2
          exact lkup_none hk p.2 (by rw [← e]; exact hp)
        · exact h.gone j (by omega) p hp e, fun i' h1 h2 h3 => h.heads i' (by omega) h2 h3⟩
      rw [hro, hno] at this
      simpa using this
    | some f =>
      have hm := lkup_some hk
      have hyes : chainF l i (l.length + 1) i 0 true = true := by
        refine chain_run hl hil (l.length + 1) es (toAt l i) f i 0 (by have := h.len; omega) h.nod (h.perm.cons _) hm h.sub (fun p hp hne j hj hjt => ?_) hil rfl (fun e => absurd rfl e)
        rcases Nat.lt_trichotomy j i with h1 | h1 | h1
        · exact absurd hjt.symm (h.gone j h1 p hp)
        · subst h1; exact absurd hjt.symm hne
        · exact h1
      obtain ⟨g1, g2, g3, g4⟩ := turn_inv es.length es (toAt l i) (toAt l i) f 0 (Nat.le_refl _) h.nod hm (h.perm.cons _)
      have := ih (i + 1) (turnF es.length es (toAt l i) f 0).1 (by omega) ⟨g1, fun p hp => h.sub p (g3 p hp).1, g2, by have := h.len; omega, fun j hj p hp e => by
        by_cases e2 : j = i
        · subst e2; exact (g3 p hp).2 e
        · exact h.gone j (by omega) p (g3 p hp).1 e, fun i' h1 h2 h3 => by
        obtain ⟨C, hC, hin⟩ := h.heads i' (by omega) h2 h3
        have hvn : (vals es).Nodup := h.perm.nodup_iff.2 h.nod
        have hback : ∀ p ∈ es, C p.2 → C p.1 := by
          intro p hp hc
          obtain ⟨b, hb, hbn⟩ := hC.read _ hc
          obtain ⟨d, hd⟩ := hin b hb
          have e1 := key_inj (nod_nonTriv hl) (h.sub _ hd) hbn rfl
          rw [e1] at hd
          have e2 := val_inj hvn hp hd rfl
          rw [e2]; exact hb
        refine ⟨C, hC, fun c hc => ?_⟩
        obtain ⟨d, hd⟩ := hin c hc
        exact ⟨d, turn_keep es.length es (toAt l i) f 0 hback hm (hC.low i (by omega)) _ hd hc⟩⟩
      rw [hro, hyes, if_pos rfl] at this
      show cycF ((keys l).drop (i + 1)) (turnF es.length es (toAt l i) f 0).1 + 1 + roundsTo l i = roundsTo l l.length
      omega

/-- AS MANY RINGS ARE TURNED AS ARE COUNTED. -/
theorem cycles_eq : cycles l = roundsF l := by
  have h1 := phase1 hl
  have hlen : (restF l).length ≤ l.length := by
    have := h1.len
    have : (nonTriv l).length ≤ l.length := List.length_filter_le _ _
    omega
  have := H.rounds hl l.length 0 (restF l) (by omega) ⟨h1.nod, h1.sub, h1.perm, hlen, fun j hj => by omega, fun i' _ h2 h3 => by
    obtain ⟨C, hC⟩ := ring_of_chain hl h2 h3
    exact ⟨C, hC, dones_keep hl hC.read _ _ (fun p hp => hp) hC.key⟩⟩
  simpa [cycles, roundsF, roundsTo] using this
end
end Go.Proofs.YteapnfobcebpfaaDoor.Mov
