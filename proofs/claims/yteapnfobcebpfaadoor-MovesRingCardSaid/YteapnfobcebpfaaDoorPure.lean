/-
  The plain law of moves at once: what a list of moves in order does, how long it is, how many rings there are. No program in sight.
-/
namespace Go.Proofs.YteapnfobcebpfaaDoor.Mov

abbrev Mv := Int × Int

def lkup (es : List Mv) (t : Int) : Option Int := (es.find? (fun p => p.1 == t)).map (·.2)
def del (es : List Mv) (t : Int) : List Mv := es.filter (fun p => p.1 != t)
def asks (es : List Mv) (t : Int) : Nat := (es.filter (fun p => p.2 == t)).length
def keys (es : List Mv) : List Int := es.map (·.1)
def vals (es : List Mv) : List Int := es.map (·.2)

theorem lkup_some {es : List Mv} {t f : Int} (h : lkup es t = some f) : (t, f) ∈ es := by
  unfold lkup at h
  rw [Option.map_eq_some_iff] at h
  obtain ⟨p, hp, rfl⟩ := h
  have h1 := List.mem_of_find?_eq_some hp
  have h2 := List.find?_some hp
  have h3 : p.1 = t := by simpa using h2
  rw [← h3]; exact h1
theorem lkup_none {es : List Mv} {t : Int} (h : lkup es t = none) (f : Int) : (t, f) ∉ es := by
  unfold lkup at h
  rw [Option.map_eq_none_iff, List.find?_eq_none] at h
  intro hm
  exact h _ hm (by simp)
theorem key_inj {es : List Mv} (hn : (keys es).Nodup) {p q : Mv} (hp : p ∈ es) (hq : q ∈ es) (h : p.1 = q.1) : p = q := by
  induction es with
  | nil => cases hp
  | cons x r ih =>
    unfold keys at hn ih
    rw [List.map_cons, List.nodup_cons] at hn
    rcases List.mem_cons.1 hp with rfl | hp' <;> rcases List.mem_cons.1 hq with rfl | hq'
    · rfl
    · exact absurd (List.mem_map.2 ⟨q, hq', h.symm⟩) hn.1
    · exact absurd (List.mem_map.2 ⟨p, hp', h⟩) hn.1
    · exact ih hn.2 hp' hq'
theorem lkup_of_mem {es : List Mv} (hn : (keys es).Nodup) {t f : Int} (h : (t, f) ∈ es) : lkup es t = some f := by
  cases hl : lkup es t with
  | none => exact absurd h (lkup_none hl f)
  | some g =>
    have := key_inj hn (lkup_some hl) h rfl
    injection this with _ h2
    rw [h2]
theorem mem_del {es : List Mv} {t : Int} {p : Mv} : p ∈ del es t ↔ p ∈ es ∧ p.1 ≠ t := by simp [del, List.mem_filter]
theorem del_none {es : List Mv} {t : Int} (h : ∀ p ∈ es, p.1 ≠ t) : del es t = es := by
  unfold del
  rw [List.filter_eq_self]
  intro p hp
  simpa using h p hp
theorem del_perm {es : List Mv} (hn : (keys es).Nodup) {t f : Int} (h : (t, f) ∈ es) : es.Perm ((t, f) :: del es t) := by
  induction es with
  | nil => cases h
  | cons x r ih =>
    unfold keys at hn ih
    rw [List.map_cons, List.nodup_cons] at hn
    rcases List.mem_cons.1 h with rfl | h'
    · have : del ((t, f) :: r) t = r := by
        have h1 : del ((t, f) :: r) t = del r t := by simp [del]
        rw [h1, del_none]
        intro p hp e
        exact hn.1 (List.mem_map.2 ⟨p, hp, e⟩)
      rw [this]
    · have hx : x.1 ≠ t := fun e => hn.1 (List.mem_map.2 ⟨_, h', e.symm⟩)
      have h1 : del (x :: r) t = x :: del r t := by simp [del, hx]
      rw [h1]
      exact (List.Perm.cons x (ih hn.2 h')).trans (List.Perm.swap _ _ _)
theorem del_len {es : List Mv} (hn : (keys es).Nodup) {t f : Int} (h : (t, f) ∈ es) : (del es t).length + 1 = es.length := by
  have := (del_perm hn h).length_eq
  simpa using this.symm
theorem del_nodup {es : List Mv} (hn : (keys es).Nodup) (t : Int) : (keys (del es t)).Nodup :=
  List.Nodup.sublist (List.Sublist.map _ List.filter_sublist) hn
theorem asks_zero {es : List Mv} {t : Int} : asks es t = 0 ↔ ∀ p ∈ es, p.2 ≠ t := by
  unfold asks
  rw [List.length_eq_zero_iff, List.filter_eq_nil_iff]
  simp
theorem asks_perm {a b : List Mv} (h : a.Perm b) (t : Int) : asks a t = asks b t := (h.filter _).length_eq
theorem asks_del {es : List Mv} (hn : (keys es).Nodup) {t f : Int} (h : (t, f) ∈ es) (x : Int) : asks es x = asks (del es t) x + if f = x then 1 else 0 := by
  rw [asks_perm (del_perm hn h)]
  unfold asks
  by_cases e : f = x <;> simp [e]

/-! ### moves done one after the other -/
def exec : List Mv → (Int → Int) → Int → Int
  | [], s => s
  | m :: r, s => exec r (fun x => if x = m.1 then s m.2 else s x)
theorem exec_append (a b : List Mv) (s : Int → Int) : exec (a ++ b) s = exec b (exec a s) := by
  induction a generalizing s with
  | nil => rfl
  | cons m r ih => simp [exec, ih]
theorem exec_snoc (a : List Mv) (m : Mv) (s : Int → Int) (x : Int) : exec (a ++ [m]) s x = if x = m.1 then exec a s m.2 else exec a s x := by
  rw [exec_append]; rfl

/-! ### the way of the program -/
def doneF : Nat → List Mv → Int → List Mv × List Mv
  | 0, es, _ => (es, [])
  | n + 1, es, t =>
    match lkup es t with
    | none => (es, [])
    | some f => if asks es t = 0 then ((doneF n (del es t) f).1, (t, f) :: (doneF n (del es t) f).2) else (es, [])
def donesF : List Int → List Mv → List Mv × List Mv
  | [], es => (es, [])
  | t :: r, es => ((donesF r (doneF es.length es t).1).1, (doneF es.length es t).2 ++ (donesF r (doneF es.length es t).1).2)
def turnF : Nat → List Mv → Int → Int → Int → List Mv × List Mv
  | 0, es, _, _, _ => (es, [])
  | n + 1, es, to, f, sp =>
    match lkup (del es to) f with
    | none => (del es to, [(to, sp)])
    | some nx => ((turnF n (del es to) f nx sp).1, (to, f) :: (turnF n (del es to) f nx sp).2)
def lastF : List Int → List Mv → Int → List Mv
  | [], _, _ => []
  | t :: r, es, sp =>
    match lkup es t with
    | none => lastF r es sp
    | some f => (sp, t) :: ((turnF es.length es t f sp).2 ++ lastF r (turnF es.length es t f sp).1 sp)
def cycF : List Int → List Mv → Nat
  | [], _ => 0
  | t :: r, es =>
    match lkup es t with
    | none => cycF r es
    | some f => cycF r (turnF es.length es t f 0).1 + 1
def nonTriv (l : List Mv) : List Mv := l.filter (fun m => m.1 != m.2)
def restF (l : List Mv) : List Mv := (donesF (keys l) (nonTriv l)).1
def orderF (l : List Mv) (sp : Int) : List Mv := (donesF (keys l) (nonTriv l)).2 ++ lastF (keys l) (restF l) sp
def cycles (l : List Mv) : Nat := cycF (keys l) (restF l)

theorem donesF_cons (t : Int) (r : List Int) (es : List Mv) : donesF (t :: r) es = ((donesF r (doneF es.length es t).1).1, (doneF es.length es t).2 ++ (donesF r (doneF es.length es t).1).2) := rfl
theorem donesF_nil (es : List Mv) : donesF [] es = (es, []) := rfl
theorem lastF_none {es : List Mv} {t : Int} (h : lkup es t = none) (r : List Int) (sp : Int) : lastF (t :: r) es sp = lastF r es sp := by unfold lastF; rw [h]; cases r <;> rfl
theorem lastF_some {es : List Mv} {t f : Int} (h : lkup es t = some f) (r : List Int) (sp : Int) : lastF (t :: r) es sp = (sp, t) :: ((turnF es.length es t f sp).2 ++ lastF r (turnF es.length es t f sp).1 sp) := by conv => lhs; unfold lastF; rw [h]
theorem cycF_le (todo : List Int) : ∀ es, cycF todo es ≤ todo.length := by
  induction todo with
  | nil => intro es; exact Nat.zero_le _
  | cons t r ih =>
    intro es
    unfold cycF
    cases lkup es t with
    | none => exact Nat.le_trans (ih es) (by simp)
    | some f => have := ih (turnF es.length es t f 0).1; simp only [List.length_cons]; omega
theorem cycles_le (l : List Mv) : cycles l ≤ l.length := by have := cycF_le (keys l) (restF l); simpa [cycles, keys] using this
theorem turnF_fst (n : Nat) : ∀ (es : List Mv) (to f sp sp' : Int), (turnF n es to f sp).1 = (turnF n es to f sp').1 := by
  induction n with
  | zero => intros; rfl
  | succ n ih =>
    intro es to f sp sp'
    unfold turnF
    cases lkup (del es to) f with
    | none => rfl
    | some nx => exact ih _ _ _ _ _

/-! ### the first phase -/
structure I (N es out : List Mv) (todo : List Int) : Prop where
  nod : (keys es).Nodup
  sub : ∀ p ∈ es, p ∈ N
  done : ∀ p ∈ N, p ∉ es → exec out id p.1 = p.2
  same : ∀ x, (∀ p ∈ N, p.1 = x → p ∈ es) → exec out id x = x
  src : ∀ p ∈ es, ∀ q ∈ N, q.1 = p.2 → q ∈ es
  ready : ∀ p ∈ es, asks es p.1 = 0 → p.1 ∈ todo
  len : out.length + es.length = N.length
  tos : ∀ m ∈ out, ∃ p ∈ N, p.1 = m.1

section
variable {N : List Mv} (hN : (keys N).Nodup)
include hN
theorem I.step {es out : List Mv} {t f : Int} {todo : List Int} (h : I N es out (t :: todo)) (hm : (t, f) ∈ es) (h0 : asks es t = 0) : I N (del es t) (out ++ [(t, f)]) (f :: todo) := by
  have hread := asks_zero.1 h0
  have hff : exec out id f = f := h.same f (fun p hp e => h.src _ hm p hp e)
  refine ⟨del_nodup h.nod t, fun p hp => h.sub p (mem_del.1 hp).1, fun p hp hnot => ?_, fun x hx => ?_, fun p hp q hq e => ?_, fun p hp h0' => ?_, ?_, fun m hmem => ?_⟩
  · rw [exec_snoc]
    by_cases e : p.1 = t
    · rw [if_pos e, hff]
      have := key_inj hN hp (h.sub _ hm) e
      rw [this]
    · rw [if_neg e]
      exact h.done p hp (fun hin => hnot (mem_del.2 ⟨hin, e⟩))
  · have hxt : x ≠ t := by
      intro e
      exact (mem_del.1 (hx _ (h.sub _ hm) e.symm)).2 rfl
    rw [exec_snoc, if_neg hxt]
    exact h.same x (fun p hp e => (mem_del.1 (hx p hp e)).1)
  · obtain ⟨hp1, hp2⟩ := mem_del.1 hp
    refine mem_del.2 ⟨h.src p hp1 q hq e, ?_⟩
    rw [e]
    exact hread p hp1
  · obtain ⟨hp1, hp2⟩ := mem_del.1 hp
    by_cases e : f = p.1
    · rw [e]; exact List.mem_cons_self
    · have := asks_del h.nod hm p.1
      rw [if_neg e] at this
      have hr := h.ready p hp1 (by omega)
      rcases List.mem_cons.1 hr with e1 | e1
      · exact absurd e1 hp2
      · exact List.mem_cons_of_mem _ e1
  · have := del_len h.nod hm
    have := h.len
    simp; omega
  · rcases List.mem_append.1 hmem with h1 | h1
    · exact h.tos m h1
    · rw [List.mem_singleton.1 h1]
      exact ⟨_, h.sub _ hm, rfl⟩
theorem I.doneF (n : Nat) : ∀ {es out : List Mv} {t : Int} {todo : List Int}, es.length ≤ n → I N es out (t :: todo) → I N (doneF n es t).1 (out ++ (doneF n es t).2) todo := by
  induction n with
  | zero =>
    intro es out t todo hl h
    have : es = [] := List.eq_nil_of_length_eq_zero (by omega)
    subst this
    unfold Mov.doneF
    rw [List.append_nil]
    exact ⟨h.nod, h.sub, h.done, h.same, h.src, fun p hp => (by cases hp), h.len, h.tos⟩
  | succ n ih =>
    intro es out t todo hl h
    unfold Mov.doneF
    cases hk : lkup es t with
    | none =>
      simp only [List.append_nil]
      refine ⟨h.nod, h.sub, h.done, h.same, h.src, fun p hp h0 => ?_, h.len, h.tos⟩
      rcases List.mem_cons.1 (h.ready p hp h0) with e | e
      · exact absurd (show (t, p.2) ∈ es by rw [← e]; exact hp) (lkup_none hk p.2)
      · exact e
    | some f =>
      have hm := lkup_some hk
      by_cases h0 : asks es t = 0
      · simp only [if_pos h0]
        have hd := del_len h.nod hm
        have := ih (by omega) (I.step hN h hm h0)
        rw [List.append_assoc] at this
        exact this
      · simp only [if_neg h0, List.append_nil]
        refine ⟨h.nod, h.sub, h.done, h.same, h.src, fun p hp hr => ?_, h.len, h.tos⟩
        rcases List.mem_cons.1 (h.ready p hp hr) with e | e
        · rw [e] at hr; exact absurd hr h0
        · exact e
theorem I.donesF (todo : List Int) : ∀ {es out : List Mv}, I N es out todo → I N (donesF todo es).1 (out ++ (donesF todo es).2) [] := by
  induction todo with
  | nil => intro es out h; unfold Mov.donesF; rw [List.append_nil]; exact h
  | cons t r ih =>
    intro es out h
    unfold Mov.donesF
    have := ih (I.doneF hN es.length (Nat.le_refl _) h)
    rw [List.append_assoc] at this
    exact this
theorem I.start (todo : List Int) (h : ∀ p ∈ N, p.1 ∈ todo) : I N N [] todo :=
  ⟨hN, fun _ h => h, fun p hp hn => absurd hp hn, fun _ _ => rfl, fun _ _ q hq _ => hq, fun p hp _ => h p hp, by simp, fun m hm => by cases hm⟩
end

theorem perm_of_cover : ∀ (K V : List Int), K.Nodup → (∀ x ∈ K, x ∈ V) → V.length = K.length → V.Perm K
  | [], V, _, _, hl => by
    have : V = [] := List.eq_nil_of_length_eq_zero (by simpa using hl)
    rw [this]
  | x :: K, V, hn, hc, hl => by
    rw [List.nodup_cons] at hn
    have hx := hc x List.mem_cons_self
    have h1 := List.perm_cons_erase hx
    have h2 : (V.erase x).length = K.length := by
      have := h1.length_eq
      simp at this hl
      omega
    have h3 := perm_of_cover K (V.erase x) hn.2 (fun y hy => by
      have hne : y ≠ x := fun e => hn.1 (e ▸ hy)
      exact (List.mem_erase_of_ne hne).2 (hc y (List.mem_cons_of_mem _ hy))) h2
    exact h1.trans (h3.cons x)

theorem I.perm {N es out : List Mv} (h : I N es out []) : (vals es).Perm (keys es) := by
  refine perm_of_cover (keys es) (vals es) h.nod (fun x hx => ?_) (by simp [keys, vals])
  obtain ⟨p, hp, rfl⟩ := List.mem_map.1 hx
  have h0 : asks es p.1 ≠ 0 := fun e => by cases h.ready p hp e
  apply Classical.byContradiction
  intro hno
  refine h0 (asks_zero.2 fun q hq e => hno (List.mem_map.2 ⟨q, hq, e⟩))

/-! ### the second phase -/
structure J (N es out : List Mv) (sp : Int) : Prop where
  nod : (keys es).Nodup
  sub : ∀ p ∈ es, p ∈ N
  done : ∀ p ∈ N, p ∉ es → exec out id p.1 = p.2
  same : ∀ x, x ≠ sp → (∀ p ∈ N, p.1 = x → p ∈ es) → exec out id x = x
  perm : (vals es).Perm (keys es)
structure T (N es out : List Mv) (sp t0 to f : Int) : Prop where
  nod : (keys es).Nodup
  sub : ∀ p ∈ es, p ∈ N
  done : ∀ p ∈ N, p ∉ es → exec out id p.1 = p.2
  same : ∀ x, x ≠ sp → (∀ p ∈ N, p.1 = x → p ∈ es) → exec out id x = x
  mem : (to, f) ∈ es
  spv : exec out id sp = t0
  perm : (to :: vals es).Perm (t0 :: keys es)

/-- Behind a step of a turn: what is left of the balance. -/
theorem perm_step {es : List Mv} {t0 to f : Int} (nod : (keys es).Nodup) (mem : (to, f) ∈ es) (perm : (to :: vals es).Perm (t0 :: keys es)) :
    (f :: vals (del es to)).Perm (t0 :: keys (del es to)) := by
  have hp := del_perm nod mem
  have h1 : (vals es).Perm (f :: vals (del es to)) := hp.map (fun p : Mv => p.2)
  have h2 : (keys es).Perm (to :: keys (del es to)) := hp.map (fun p : Mv => p.1)
  have h3 : (to :: f :: vals (del es to)).Perm (t0 :: to :: keys (del es to)) := ((h1.cons to).symm.trans perm).trans (h2.cons t0)
  exact List.Perm.cons_inv (h3.trans (List.Perm.swap _ _ _))
theorem not_key {es : List Mv} {f : Int} (h : lkup es f = none) : f ∉ keys es := by
  intro hk
  obtain ⟨p, hp, rfl⟩ := List.mem_map.1 hk
  exact lkup_none h p.2 hp
theorem end_step {es : List Mv} {t0 f : Int} (hk : lkup es f = none) (perm : (f :: vals es).Perm (t0 :: keys es)) : f = t0 := by
  have : f ∈ t0 :: keys es := perm.mem_iff.1 List.mem_cons_self
  rcases List.mem_cons.1 this with e | e
  · exact e
  · exact absurd e (not_key hk)

section
variable {N : List Mv} (hN : (keys N).Nodup) {sp : Int} (hsp : ∀ p ∈ N, p.1 ≠ sp ∧ p.2 ≠ sp)
include hN hsp
theorem T.turn (n : Nat) : ∀ {es out : List Mv} {t0 to f : Int}, es.length ≤ n → T N es out sp t0 to f →
    J N (turnF n es to f sp).1 (out ++ (turnF n es to f sp).2) sp ∧ (turnF n es to f sp).2.length + (turnF n es to f sp).1.length = es.length ∧
      ∀ p ∈ (turnF n es to f sp).1, p ∈ es ∧ p.1 ≠ to := by
  induction n with
  | zero =>
    intro es out t0 to f hl h
    have : es = [] := List.eq_nil_of_length_eq_zero (by omega)
    subst this
    cases h.mem
  | succ n ih =>
    intro es out t0 to f hl h
    have hps := perm_step h.nod h.mem h.perm
    have hd := del_len h.nod h.mem
    have htosp : to ≠ sp := (hsp _ (h.sub _ h.mem)).1
    have hfsp : f ≠ sp := (hsp _ (h.sub _ h.mem)).2
    have hnot : ∀ x, (∀ p ∈ N, p.1 = x → p ∈ del es to) → x ≠ to := fun x hx e => (mem_del.1 (hx _ (h.sub _ h.mem) e.symm)).2 rfl
    unfold turnF
    cases hk : lkup (del es to) f with
    | none =>
      have hft := end_step hk hps
      subst hft
      refine ⟨⟨del_nodup h.nod to, fun p hp => h.sub p (mem_del.1 hp).1, fun p hp hn => ?_, fun x hx hall => ?_, List.Perm.cons_inv hps⟩, ?_, fun p hp => mem_del.1 hp⟩
      · simp only
        rw [exec_snoc]
        by_cases e : p.1 = to
        · rw [if_pos e]
          have := key_inj hN hp (h.sub _ h.mem) e
          rw [this]
          exact h.spv
        · rw [if_neg e]
          exact h.done p hp (fun hin => hn (mem_del.2 ⟨hin, e⟩))
      · simp only
        rw [exec_snoc, if_neg (hnot x hall)]
        exact h.same x hx (fun p hp e => (mem_del.1 (hall p hp e)).1)
      · simp; omega
    | some nx =>
      have hmem := lkup_some hk
      have hmem' : (f, nx) ∈ es := (mem_del.1 hmem).1
      have hff : exec out id f = f := h.same f hfsp (fun p hp e => by
        have := key_inj hN hp (h.sub _ hmem') e
        rw [this]; exact hmem')
      have hT : T N (del es to) (out ++ [(to, f)]) sp t0 f nx := by
        refine ⟨del_nodup h.nod to, fun p hp => h.sub p (mem_del.1 hp).1, fun p hp hn => ?_, fun x hx hall => ?_, hmem, ?_, hps⟩
        · rw [exec_snoc]
          by_cases e : p.1 = to
          · rw [if_pos e, hff]
            have := key_inj hN hp (h.sub _ h.mem) e
            rw [this]
          · rw [if_neg e]
            exact h.done p hp (fun hin => hn (mem_del.2 ⟨hin, e⟩))
        · rw [exec_snoc, if_neg (hnot x hall)]
          exact h.same x hx (fun p hp e => (mem_del.1 (hall p hp e)).1)
        · rw [exec_snoc, if_neg (fun e => htosp e.symm)]
          exact h.spv
      obtain ⟨g1, g2, g3⟩ := ih (by omega) hT
      refine ⟨?_, ?_, fun p hp => ?_⟩
      · rw [List.append_assoc] at g1
        exact g1
      · simp only [List.length_cons]
        omega
      · have := g3 p hp
        exact mem_del.1 this.1
theorem J.begin {es out : List Mv} {t f : Int} (h : J N es out sp) (hm : (t, f) ∈ es) : T N es (out ++ [(sp, t)]) sp t t f := by
  have ht : t ≠ sp := (hsp _ (h.sub _ hm)).1
  refine ⟨h.nod, h.sub, fun p hp hn => ?_, fun x hx hall => ?_, hm, ?_, h.perm.cons t⟩
  · rw [exec_snoc, if_neg (hsp p hp).1]
    exact h.done p hp hn
  · rw [exec_snoc, if_neg hx]
    exact h.same x hx hall
  · rw [exec_snoc, if_pos rfl]
    exact h.same t ht (fun p hp e => by
      have := key_inj hN hp (h.sub _ hm) e
      rw [this]; exact hm)
theorem J.last (todo : List Int) : ∀ {es out : List Mv}, J N es out sp →
    ∃ es', J N es' (out ++ lastF todo es sp) sp ∧ (∀ p ∈ es', p ∈ es ∧ p.1 ∉ todo) ∧ (lastF todo es sp).length + es'.length = es.length + cycF todo es := by
  induction todo with
  | nil =>
    intro es out h
    exact ⟨es, by unfold lastF; rw [List.append_nil]; exact h, fun p hp => ⟨hp, by simp⟩, by simp [lastF, cycF]⟩
  | cons t r ih =>
    intro es out h
    unfold lastF cycF
    cases hk : lkup es t with
    | none =>
      obtain ⟨es', g1, g2, g3⟩ := ih h
      refine ⟨es', g1, fun p hp => ⟨(g2 p hp).1, ?_⟩, g3⟩
      intro hin
      rcases List.mem_cons.1 hin with e | e
      · exact lkup_none hk p.2 (by rw [← e]; exact (g2 p hp).1)
      · exact (g2 p hp).2 e
    | some f =>
      have hm := lkup_some hk
      obtain ⟨k1, k2, k3⟩ := T.turn hN hsp es.length (Nat.le_refl _) (J.begin hN hsp h hm)
      obtain ⟨es', g1, g2, g3⟩ := ih k1
      refine ⟨es', ?_, fun p hp => ⟨(k3 p (g2 p hp).1).1, fun hin => ?_⟩, ?_⟩
      · simp only [List.append_assoc, List.singleton_append] at g1
        exact g1
      · rcases List.mem_cons.1 hin with e | e
        · exact (k3 p (g2 p hp).1).2 e
        · exact (g2 p hp).2 e
      · have e := turnF_fst es.length es t f 0 sp
        simp only [e, List.length_cons, List.length_append]
        omega
end

/-! ### what Order answers -/
theorem nod_nonTriv {l : List Mv} (h : (keys l).Nodup) : (keys (nonTriv l)).Nodup := List.Nodup.sublist (List.Sublist.map _ List.filter_sublist) h
theorem mem_nonTriv {l : List Mv} {p : Mv} : p ∈ nonTriv l ↔ p ∈ l ∧ p.1 ≠ p.2 := by simp [nonTriv, List.mem_filter]
section
variable {l : List Mv} (hl : (keys l).Nodup)
include hl
theorem phase1 : I (nonTriv l) (restF l) (donesF (keys l) (nonTriv l)).2 [] := by
  have := I.donesF (nod_nonTriv hl) (keys l) (I.start (nod_nonTriv hl) (keys l) (fun p hp => List.mem_map.2 ⟨p, (mem_nonTriv.1 hp).1, rfl⟩))
  simpa [restF] using this
variable {sp : Int} (hsp : ∀ p ∈ l, p.1 ≠ sp ∧ p.2 ≠ sp)
include hsp
theorem phase2 : J (nonTriv l) [] (orderF l sp) sp ∧ (orderF l sp).length = (nonTriv l).length + cycles l := by
  have h1 := phase1 hl
  have hj : J (nonTriv l) (restF l) (donesF (keys l) (nonTriv l)).2 sp := ⟨h1.nod, h1.sub, h1.done, fun x _ => h1.same x, h1.perm⟩
  obtain ⟨es', g1, g2, g3⟩ := J.last (nod_nonTriv hl) (fun p hp => hsp p (mem_nonTriv.1 hp).1) (keys l) hj
  have he : es' = [] := by
    apply List.eq_nil_iff_forall_not_mem.2
    intro p hp
    have := g2 p hp
    exact this.2 (List.mem_map.2 ⟨p, (mem_nonTriv.1 (h1.sub p this.1)).1, rfl⟩)
  subst he
  refine ⟨g1, ?_⟩
  have := h1.len
  unfold orderF cycles
  simp only [List.length_append, List.length_nil] at g3 ⊢
  omega
theorem order_does {p : Mv} (hp : p ∈ l) : exec (orderF l sp) id p.1 = p.2 := by
  obtain ⟨hj, _⟩ := phase2 hl hsp
  by_cases e : p.1 = p.2
  · rw [hj.same p.1 (hsp p hp).1 (fun q hq e' => ?_)]
    · exact e
    · obtain ⟨h1, h2⟩ := mem_nonTriv.1 hq
      have := key_inj hl h1 hp e'
      rw [this] at h2
      exact absurd e h2
  · exact hj.done p (mem_nonTriv.2 ⟨hp, e⟩) (by simp)
theorem order_leaves {x : Int} (hx : x ≠ sp) (hno : ∀ p ∈ l, p.1 ≠ x) : exec (orderF l sp) id x = x :=
  (phase2 hl hsp).1.same x hx (fun p hp e => absurd e (hno p (mem_nonTriv.1 hp).1))
end

theorem turn_tos (n : Nat) : ∀ (es : List Mv) (to f sp : Int), (to, f) ∈ es → ∀ m ∈ (turnF n es to f sp).2, ∃ p ∈ es, p.1 = m.1 := by
  induction n with
  | zero => intro es to f sp _ m hm; cases hm
  | succ n ih =>
    intro es to f sp hmem m hm
    unfold turnF at hm
    cases hk : lkup (del es to) f with
    | none =>
      rw [hk] at hm
      rw [List.mem_singleton.1 hm]
      exact ⟨_, hmem, rfl⟩
    | some nx =>
      rw [hk] at hm
      rcases List.mem_cons.1 hm with e | e
      · rw [e]; exact ⟨_, hmem, rfl⟩
      · obtain ⟨p, hp, hpe⟩ := ih _ _ _ _ (lkup_some hk) m e
        exact ⟨p, (mem_del.1 hp).1, hpe⟩
theorem turn_sub (n : Nat) : ∀ (es : List Mv) (to f sp : Int), ∀ p ∈ (turnF n es to f sp).1, p ∈ es := by
  induction n with
  | zero => intro es to f sp p hp; exact hp
  | succ n ih =>
    intro es to f sp p hp
    unfold turnF at hp
    cases hk : lkup (del es to) f with
    | none => rw [hk] at hp; exact (mem_del.1 hp).1
    | some nx => rw [hk] at hp; exact (mem_del.1 (ih _ _ _ _ p hp)).1
theorem last_tos (todo : List Int) : ∀ (es : List Mv) (sp : Int), ∀ m ∈ lastF todo es sp, m.1 = sp ∨ ∃ p ∈ es, p.1 = m.1 := by
  induction todo with
  | nil => intro es sp m hm; cases hm
  | cons t r ih =>
    intro es sp m hm
    unfold lastF at hm
    cases hk : lkup es t with
    | none => rw [hk] at hm; exact ih _ _ m hm
    | some f =>
      rw [hk] at hm
      rcases List.mem_cons.1 hm with e | e
      · exact .inl (by rw [e])
      · rcases List.mem_append.1 e with e | e
        · exact .inr (turn_tos _ _ _ _ _ (lkup_some hk) m e)
        · rcases ih _ _ m e with h1 | ⟨p, hp, hpe⟩
          · exact .inl h1
          · exact .inr ⟨p, turn_sub _ _ _ _ _ p hp, hpe⟩
theorem last_used (todo : List Int) : ∀ (es : List Mv) (sp : Int), (cycF todo es = 0 → lastF todo es sp = []) ∧ (0 < cycF todo es → ∃ m ∈ lastF todo es sp, m.1 = sp) := by
  induction todo with
  | nil => intro es sp; exact ⟨fun _ => rfl, fun h => by simp [cycF] at h⟩
  | cons t r ih =>
    intro es sp
    unfold lastF cycF
    cases hk : lkup es t with
    | none => exact ih es sp
    | some f => exact ⟨fun h => by simp at h, fun _ => ⟨_, List.mem_cons_self, rfl⟩⟩
theorem order_used {l : List Mv} (hl : (keys l).Nodup) {sp : Int} (hsp : ∀ p ∈ l, p.1 ≠ sp ∧ p.2 ≠ sp) : (∃ m ∈ orderF l sp, m.1 = sp) ↔ 0 < cycles l := by
  have h1 := phase1 hl
  unfold orderF cycles
  constructor
  · rintro ⟨m, hm, e⟩
    rcases Nat.eq_zero_or_pos (cycF (keys l) (restF l)) with h0 | h0
    · rw [(last_used _ _ sp).1 h0, List.append_nil] at hm
      obtain ⟨p, hp, hpe⟩ := h1.tos m hm
      exact absurd (hpe.trans e) (hsp p (mem_nonTriv.1 hp).1).1
    · exact h0
  · intro h0
    obtain ⟨m, hm, e⟩ := (last_used _ _ sp).2 h0
    exact ⟨m, List.mem_append_right _ hm, e⟩
theorem order_tos {l : List Mv} (hl : (keys l).Nodup) {sp : Int} : ∀ m ∈ orderF l sp, m.1 = sp ∨ ∃ p ∈ l, p.1 = m.1 := by
  have h1 := phase1 hl
  intro m hm
  rcases List.mem_append.1 hm with h | h
  · obtain ⟨p, hp, e⟩ := h1.tos m h
    exact .inr ⟨p, (mem_nonTriv.1 hp).1, e⟩
  · rcases last_tos _ _ _ m h with e | ⟨p, hp, e⟩
    · exact .inl e
    · exact .inr ⟨p, (mem_nonTriv.1 (h1.sub p hp)).1, e⟩

end Go.Proofs.YteapnfobcebpfaaDoor.Mov
