/-
 DomPure, DfsPure, DomPure2, FlowPure, SettlePure.
-/
set_option linter.unusedSimpArgs false
set_option linter.unusedVariables false
namespace Go.Proofs.YtgbgbmdiomhfiaaGreatDoor
inductive Reach(E:Nat→Nat→Prop):Nat→Prop
 |zero:Reach E 0
 |step {p k:Nat} (h:Reach E p) (e:E p k):Reach E k
inductive Avoid(E:Nat→Nat→Prop)(x:Nat):Nat→Prop
 |zero (h:x≠0):Avoid E x 0
 |step {p k:Nat} (h:Avoid E x p) (e:E p k) (n:k≠x):Avoid E x k
inductive Av(E:Nat→Nat→Prop)(pos:Nat→Nat)(x:Nat):Nat→Nat→Prop
 |zero (h:x≠0) (r:Nat):Av E pos x 0 r
 |adv {p k r:Nat} (h:Av E pos x p r) (e:E p k) (n:k≠x) (l:pos p<pos k):Av E pos x k r
 |ret {p k r:Nat} (h:Av E pos x p r) (e:E p k) (n:k≠x) (l:¬pos p<pos k):Av E pos x k (r+1)
def Dm(E:Nat→Nat→Prop)(x k:Nat):Prop:=Reach E k∧¬Avoid E x k
section
variable {E:Nat→Nat→Prop} {pos:Nat→Nat} {x k p r:Nat}
theorem Avoid.ne(h:Avoid E x k):x≠k:=by
 cases h with
 |zero h=>exact h
 |step _ _ n=>exact fun e=>n e.symm
theorem Av.ne(h:Av E pos x k r):x≠k:=by
 cases h with
 |zero h=>exact h
 |adv _ _ n=>exact fun e=>n e.symm
 |ret _ _ n=>exact fun e=>n e.symm
theorem Av.avoid(h:Av E pos x k r):Avoid E x k:=by
 induction h with
 |zero h=>exact .zero h
 |adv _ e n _ ih=>exact .step ih e n
 |ret _ e n _ ih=>exact .step ih e n
theorem Av.succ(h:Av E pos x k r):Av E pos x k (r+1):=by
 induction h with
 |zero h r=>exact .zero h _
 |adv _ e n l ih=>exact .adv ih e n l
 |ret _ e n l ih=>exact .ret ih e n l
theorem Av.mono(h:Av E pos x k r){s:Nat}(hs:r≤s):Av E pos x k s:=by
 induction s with
 |zero=>obtain rfl:r=0:=by omega
        exact h
 |succ s ih=>
  by_cases e:r=s+1
  ·subst e;exact h
  ·exact(ih (by omega)).succ
theorem Avoid.av(h:Avoid E x k):∃r,Av E pos x k r:=by
 induction h with
 |zero h=>exact⟨0,.zero h 0⟩
 | @step p k _ e n ih=>
   obtain⟨r,hr⟩:=ih
   by_cases l:pos p<pos k
   ·exact⟨r,.adv hr e n l⟩
   ·exact⟨r+1,.ret hr e n l⟩
theorem Avoid.reach(h:Avoid E x k):Reach E k:=by
 induction h with
 |zero=>exact .zero
 |step _ e _ ih=>exact .step ih e
theorem Av.split(h:Av E pos x k r)(y:Nat):Av E pos y k r∨Av E pos x y r:=by
 induction h with
 |zero h r=>
  by_cases e:y=0
  ·subst e;exact .inr (.zero h r)
  ·exact .inl (.zero e r)
 | @adv p k r h e n l ih=>
   by_cases hy:y=k
   ·subst hy;exact .inr (.adv h e n l)
   ·rcases ih with ih|ih
    ·exact .inl (.adv ih e (fun e=>hy e.symm) l)
    ·exact .inr ih
 | @ret p k r h e n l ih=>
   by_cases hy:y=k
   ·subst hy;exact .inr (.ret h e n l)
   ·rcases ih with ih|ih
    ·exact .inl (.ret ih e (fun e=>hy e.symm) l)
    ·exact .inr ih.succ
theorem Dm.zero_of(h:Dm E x 0):x=0:=by
 by_cases e:x=0
 ·exact e
 ·exact absurd (.zero e) h.2
theorem Dm.refl(h:Reach E k):Dm E k k:=⟨h,fun a=>a.ne rfl⟩
theorem Dm.pred(h:Dm E x k)(hx:x≠k)(hp:Reach E p)(e:E p k):Dm E x p:=⟨hp,fun a=>h.2 (.step a e fun e=>hx e.symm)⟩
theorem Av.least(h:Av E pos x k r)(hl:¬Av E pos x k (r-1)∨r=0):∀s,s≤r→∃j,Av E pos x j s∧(¬Av E pos x j (s-1)∨s=0):=by
 induction h with
 |zero h r=>
  intro s hs;rcases hl with hl|hl
  ·exact absurd (.zero h _) hl
  ·obtain rfl:s=0:=by omega
   exact⟨0,.zero h 0,.inr rfl⟩
 | @adv p k r h e n l ih=>
   refine ih ?_;rcases hl with hl|hl
   ·exact .inl fun a=>hl (.adv a e n l)
   ·exact .inr hl
 | @ret p k r h e n l ih=>
   intro s hs;have hk:¬Av E pos x k r:=by
    rcases hl with hl|hl
    ·simpa using hl
    ·omega
   by_cases es:s=r+1
   ·subst es;exact⟨k,.ret h e n l,.inl (by simpa using hk)⟩
   ·refine ih ?_ s (by omega)
    by_cases h0:r=0
    ·exact .inr h0
    ·refine .inl fun a=>hk ?_
     have:=Av.ret a e n l
     rwa [show r-1+1=r by omega]at this
theorem nodup_le:∀(l m:List Nat),l.Nodup→(∀x∈l,x∈m)→l.length≤m.length
 | [],_,_,_=>by simp
 |x::l,m,hd,hs=>by
  have hx:x∈m:=hs x (by simp);have h1:l.length≤(m.erase x).length:=nodup_le l (m.erase x) (List.nodup_cons.1 hd).2 fun y hy=>by
   have hne:y≠x:=fun e=>(List.nodup_cons.1 hd).1 (e▸hy)
   exact(List.mem_erase_of_ne hne).2 (hs y (by simp[hy]))
  rw[List.length_erase_of_mem hx]at h1;have :0<m.length:=List.length_pos_of_mem hx;simp;omega
theorem nodup_map_range(f:Nat→Nat)(n:Nat)(h:∀i j,i<n→j<n→f i=f j→i=j):((List.range n).map f).Nodup:=by
 induction n with
 |zero=>simp
 |succ n ih=>
  rw[List.range_succ,List.map_append,List.nodup_append];refine⟨ih fun i j hi hj=>h i j (by omega) (by omega),by simp,?_⟩;intro a ha b hb;simp at ha hb;obtain⟨i,hi,rfl⟩:=ha;subst hb;exact fun e=>absurd (h i n (by omega) (by omega) e) (by omega)
theorem Av.few{order:List Nat}(hall:∀j,Reach E j→j∈order)(h:Av E pos x k r):Av E pos x k order.length:=by
 by_cases hn:r≤order.length
 ·exact h.mono hn
 · --the least r
  have hex:∃s,s≤r∧Av E pos x k s∧(¬Av E pos x k (s-1)∨s=0):=by
   clear hn;induction r with
   |zero=>exact⟨0,by omega,h,.inr rfl⟩
   |succ r ih=>
    by_cases h':Av E pos x k r
    ·obtain⟨s,h1,h2⟩:=ih h';exact⟨s,by omega,h2⟩
    ·exact⟨r+1,by omega,h,.inl (by simpa using h')⟩
  obtain⟨s,hs,hk,hl⟩:=hex
  by_cases hsn:s≤order.length
  ·exact hk.mono hsn
  ·exfalso
   have hlow:=hk.least hl;have hch:∃f:Nat→Nat,∀i,i≤s→Av E pos x (f i) i∧(¬Av E pos x (f i) (i-1)∨i=0):=by
    refine⟨fun i=>if hi:i≤s then Classical.choose (hlow i hi)else 0,fun i hi=>?_⟩;simp only[dif_pos hi];exact Classical.choose_spec (hlow i hi)
   obtain⟨f,hf⟩:=hch;have hlt:∀i j,i≤s→j≤s→i<j→f i≠f j:=fun i j hi hj hij e=>by
    rcases(hf j hj).2 with h'|h'
    ·exact h' (e▸((hf i hi).1.mono (by omega)))
    ·omega
   have hd:((List.range (s+1)).map f).Nodup:=nodup_map_range f _ fun i j hi hj e=>by
    by_cases h1:i<j
    ·exact absurd e (hlt i j (by omega) (by omega) h1)
    ·by_cases h2:j<i
     ·exact absurd e.symm (hlt j i (by omega) (by omega) h2)
     ·omega
   have:=nodup_le _ order hd fun y hy=>by
    simp at hy;obtain⟨i,hi,rfl⟩:=hy;exact hall _ (hf i (by omega)).1.avoid.reach
   simp at this;omega
end
inductive Ch(id:Nat→Option Nat)(x:Nat):Nat→Prop
 |refl:Ch id x x
 |up {k u:Nat} (h0:k≠0) (e:id k=some u) (h:Ch id x u):Ch id x k
def updF(id:Nat→Option Nat)(k:Nat)(v:Option Nat):Nat→Option Nat:=fun j=>if j=k then v else id j
def updN(r:Nat→Nat)(k:Nat)(v:Nat):Nat→Nat:=fun j=>if j=k then v else r j
inductive TA(tp:Nat→Nat)(a:Nat):Nat→Prop
 |refl:TA tp a a
 |up {k:Nat} (h0:k≠0) (h:TA tp a (tp k)):TA tp a k
structure Ordd(E:Nat→Nat→Prop)(order:List Nat)(pos tp:Nat→Nat):Prop where
 mem:∀k,k∈order↔Reach E k
 inj:∀i j,i∈order→j∈order→pos i=pos j→i=j
 tp:∀k,k∈order→k≠0→E (tp k) k∧tp k∈order∧pos (tp k)<pos k
section
variable {E:Nat→Nat→Prop} {order:List Nat} {pos tp:Nat→Nat} {id:Nat→Option Nat}
theorem TA.trans{a b c:Nat}(h1:TA tp a b)(h2:TA tp b c):TA tp a c:=by
 induction h2 with
 |refl=>exact h1
 |up h0 _ ih=>exact .up h0 ih
theorem TA.pos_le(O:Ordd E order pos tp){a k:Nat}(h:TA tp a k)(hk:k∈order):pos a≤pos k∧a∈order:=by
 induction h with
 |refl=>exact⟨Nat.le_refl _,hk⟩
 |up h0 _ ih=>
  obtain⟨_,h2,h3⟩:=O.tp _ hk h0;obtain⟨i1,i2⟩:=ih h2;exact⟨by omega,i2⟩
theorem TA.avoid(O:Ordd E order pos tp){x a k:Nat}(h:TA tp a k)(hk:k∈order)(hx:pos x<pos a)(ha:Avoid E x a):Avoid E x k:=by
 induction h with
 |refl=>exact ha
 |up h0 h ih=>
  obtain⟨h1,h2,h3⟩:=O.tp _ hk h0;have:=TA.pos_le O h h2;exact .step (ih h2) h1 fun e=>by subst e;omega
structure Inv(E:Nat→Nat→Prop)(order:List Nat)(pos tp:Nat→Nat)(id:Nat→Option Nat)(r:Nat→Nat):Prop where
 zero:id 0=some 0
 up:∀k u,id k=some u→k≠0→k∈order∧TA tp u (tp k)∧(id u).isSome=true
 A:∀x k,Dm E x k→(id k).isSome=true→Ch id x k
 B:∀x k,(id k).isSome=true→Av E pos x k (r k)→¬Ch id x k
variable {r:Nat→Nat}
theorem Inv.mem(I:Inv E order pos tp id r)(O:Ordd E order pos tp){k:Nat}(h:(id k).isSome=true):k∈order:=by
 by_cases e:k=0
 ·subst e;exact(O.mem 0).2 .zero
 ·obtain⟨u,hu⟩:=Option.isSome_iff_exists.1 h;exact(I.up k u hu e).1
theorem Inv.lt(I:Inv E order pos tp id r)(O:Ordd E order pos tp){k u:Nat}(h:id k=some u)(h0:k≠0):pos u<pos k:=by
 obtain⟨h1,h2,_⟩:=I.up k u h h0;obtain⟨_,h3,h4⟩:=O.tp k h1 h0;have:=(TA.pos_le O h2 h3).1;omega
theorem Inv.ch(I:Inv E order pos tp id r)(O:Ordd E order pos tp){x k:Nat}(h:Ch id x k)(hk:(id k).isSome=true):(id x).isSome=true∧TA tp x k∧pos x≤pos k:=by
 induction h with
 |refl=>exact⟨hk,.refl,Nat.le_refl _⟩
 |up h0 e _ ih=>
  obtain⟨h1,h2,h3⟩:=I.up _ _ e h0;obtain⟨i1,i2,i3⟩:=ih h3;have:=I.lt O e h0;exact⟨i1,.up h0 (i2.trans h2),by omega⟩
theorem Ch.trans{x y k:Nat}(h1:Ch id x y)(h2:Ch id y k):Ch id x k:=by
 induction h2 with
 |refl=>exact h1
 |up h0 e _ ih=>exact .up h0 e ih
theorem Ch.up_of{x k u:Nat}(h:Ch id x k)(hx:x≠k)(hu:id k=some u):Ch id x u:=by
 cases h with
 |refl=>exact absurd rfl hx
 |up _ e h=>
  rw[hu]at e;cases e;exact h
theorem Ch.zero_eq{x:Nat}(h:Ch id x 0):x=0:=by
 cases h with
 |refl=>rfl
 |up h0=>exact absurd rfl h0
theorem meet_step(I:Inv E order pos tp id r)(O:Ordd E order pos tp){a b u:Nat}(ha:(id a).isSome=true)(hb:(id b).isSome=true)(hab:pos b<pos a)(hu:id a=some u)(x:Nat):
 (Ch id x a∧Ch id x b)↔(Ch id x u∧Ch id x b):=by
 constructor
 ·rintro⟨h1,h2⟩;refine⟨h1.up_of (fun e=>?_) hu,h2⟩;subst e;have:=(I.ch O h2 hb).2.2;omega
 ·rintro⟨h1,h2⟩
  by_cases e:a=0
  ·subst e;have:=I.zero;rw[hu]at this;cases this;exact⟨h1,h2⟩
  ·exact⟨.up e hu h1,h2⟩
variable {k u R:Nat}
theorem ch_upd_below(hlt:∀j v,id j=some v→j≠0→pos v<pos j){x j:Nat}(hj:pos j<pos k)(v:Option Nat):Ch (updF id k v) x j↔Ch id x j:=by
 constructor
 ·intro h;induction h with
  |refl=>exact .refl
  | @up i w h0 e h ih=>
    have hi:i≠k:=fun e=>by subst e;omega
    have e':id i=some w:=by simpa[updF,hi]using e
    have:=hlt i w e' h0;exact .up h0 e' (ih (by omega))
 ·intro h;induction h with
  |refl=>exact .refl
  | @up i w h0 e h ih=>
    have hi:i≠k:=fun e=>by subst e;omega
    have:=hlt i w e h0;exact .up h0 (by simp[updF,hi,e]) (ih (by omega))
theorem ch_upd_split{x j:Nat}{v:Option Nat}(h:Ch (updF id k v) x j):Ch id x j∨(Ch id k j∧Ch (updF id k v) x k):=by
 induction h with
 |refl=>exact .inl .refl
 | @up i w h0 e h ih=>
   by_cases hi:i=k
   ·subst hi;exact .inr ⟨.refl,.up h0 e h⟩
   ·have e':id i=some w:=by simpa[updF,hi]using e
    rcases ih with ih|⟨i1,i2⟩
    ·exact .inl (.up h0 e' ih)
    ·exact .inr ⟨.up h0 e' i1,i2⟩
theorem ch_old_split{x j:Nat}{v:Option Nat}(h:Ch id x j):Ch (updF id k v) x j∨(Ch (updF id k v) k j∧Ch id k j∧Ch id x k):=by
 induction h with
 |refl=>exact .inl .refl
 | @up i w h0 e h ih=>
   by_cases hi:i=k
   ·subst hi;exact .inr ⟨.refl,.refl,.up h0 e h⟩
   ·have e':updF id k v i=some w:=by simp[updF,hi,e]
    rcases ih with ih|⟨i1,i2,i3⟩
    ·exact .inl (.up h0 e' ih)
    ·exact .inr ⟨.up h0 e' i1,.up h0 e i2,i3⟩
theorem Inv.look(I:Inv E order pos tp id r)(O:Ordd E order pos tp)(hk:k∈order)(hk0:k≠0)
 (hbefore:∀j,j∈order→pos j<pos k→(id j).isSome=true∧R≤r j)
 (hafter:1≤R→∀j,j∈order→(id j).isSome=true∧R-1≤r j)(hR:∀j,(id j).isSome=true→r j≤R)
 (hu:(id u).isSome=true)(hmeet:∀x,Ch id x u↔∀p,E p k→(id p).isSome=true→Ch id x p):
 Inv E order pos tp (updF id k (some u)) (updN r k R):=by
 obtain⟨t1,t2,t3⟩:=O.tp k hk hk0;obtain⟨t4,_⟩:=hbefore _ t2 t3;have hut:TA tp u (tp k):=(I.ch O ((hmeet u).1 .refl _ t1 t4) t4).2.1;have hpu:pos u<pos k:=by have:=(I.ch O ((hmeet u).1 .refl _ t1 t4) t4).2.2;omega
 have huk:u≠k:=fun e=>by subst e;omega
 have hlt:∀j v,id j=some v→j≠0→pos v<pos j:=fun j v e h0=>I.lt O e h0
 have hchu:∀x,Ch (updF id k (some u)) x u↔Ch id x u:=fun x=>ch_upd_below hlt hpu _
 have hsome:∀j,(updF id k (some u) j).isSome=true→j=k∨(id j).isSome=true:=fun j h=>by
  by_cases e:j=k
  ·exact .inl e
  ·exact .inr (by simpa[updF,e]using h)
 have hreach:Reach E k:=(O.mem k).1 hk;have hnew:∀x,Ch (updF id k (some u)) x k↔x=k∨Ch id x u:=fun x=>by
  constructor
  ·intro h
   by_cases e:x=k
   ·exact .inl e
   ·exact .inr ((hchu x).1 (h.up_of e (by simp[updF])))
  ·rintro(rfl|h)
   ·exact .refl
   ·exact .up hk0 (by simp[updF]) ((hchu x).2 h)
 have hAk:∀x,Dm E x k→Ch (updF id k (some u)) x k:=fun x hx=>by
  rw[hnew]
  by_cases e:x=k
  ·exact .inl e
  ·refine .inr ((hmeet x).2 fun p he hp=>I.A x p (hx.pred e ?_ he) hp);exact(O.mem p).1 (I.mem O hp)
 have hBk:∀x,Av E pos x k R→¬Ch (updF id k (some u)) x k:=fun x hx hc=>by
  rw[hnew]at hc;rcases hc with rfl|hc
  ·exact hx.ne rfl
  ·cases hx with
   |zero=>exact hk0 rfl
   | @adv p _ _ h e n l=>
     have hp:p∈order:=(O.mem p).2 h.avoid.reach;obtain⟨p1,p2⟩:=hbefore p hp l;exact I.B x p p1 (h.mono p2) ((hmeet x).1 hc p e p1)
   | @ret p _ r' h e n l=>
     have hp:p∈order:=(O.mem p).2 h.avoid.reach;obtain⟨p1,p2⟩:=hafter (by omega) p hp;exact I.B x p p1 (h.mono (by omega)) ((hmeet x).1 hc p e p1)
 refine⟨?_,?_,?_,?_⟩
 ·simp[updF,Ne.symm hk0,I.zero]
 ·intro j v e h0
  by_cases ej:j=k
  ·subst ej;have :u=v:=by simpa[updF]using e
   subst this;exact⟨hk,hut,by simp[updF,huk,hu]⟩
  ·have e':id j=some v:=by simpa[updF,ej]using e
   obtain⟨h1,h2,h3⟩:=I.up j v e' h0;refine⟨h1,h2,?_⟩
   by_cases ev:v=k
   ·subst ev;simp[updF]
   ·simpa[updF,ev]using h3
 ·intro x j hx hj
  by_cases ej:j=k
  ·subst ej;exact hAk x hx
  ·have hj':(id j).isSome=true:=(hsome j hj).resolve_left ej;have hc:=I.A x j hx hj';rcases ch_old_split (k:=k) (v:=some u) hc with h|⟨h1,h2,h3⟩
   ·exact h
   ·by_cases exk:x=k
    ·subst exk;exact h1
    ·refine(hAk x ⟨hreach,fun ha=>?_⟩).trans h1;have hjo:j∈order:=I.mem O hj';have hpos:pos x<pos k:=by
      have hks:=(I.ch O h2 hj').1;obtain⟨w,hw⟩:=Option.isSome_iff_exists.1 hks;have:=(I.ch O (h3.up_of exk hw) (I.up k w hw hk0).2.2).2.2;have:=I.lt O hw hk0;omega
     exact hx.2 (TA.avoid O (I.ch O h2 hj').2.1 hjo hpos ha)
 ·intro x j hj ha hc
  by_cases ej:j=k
  ·subst ej;exact hBk x (by simpa[updN]using ha) hc
  ·have hj':(id j).isSome=true:=(hsome j hj).resolve_left ej;have ha':Av E pos x j (r j):=by simpa[updN,ej]using ha
   rcases ch_upd_split hc with h|⟨h1,h2⟩
   ·exact I.B x j hj' ha' h
   ·rcases ha'.split k with h|h
    ·exact I.B k j hj' h h1
    ·exact hBk x (h.mono (hR j hj')) h2
theorem Inv.done(I:Inv E order pos tp id r)(O:Ordd E order pos tp)(hall:∀j,j∈order→(id j).isSome=true)
 (hfix:∀k u,k∈order→k≠0→id k=some u→∀x,Ch id x u→∀p,E p k→(id p).isSome=true→Ch id x p)(x k:Nat)(hk:k∈order):Ch id x k↔Dm E x k:=by
 constructor
 ·intro h;have hr:Reach E k:=(O.mem k).1 hk;refine⟨hr,fun ha=>?_⟩;induction ha with
  |zero h0=>exact h0 h.zero_eq
  | @step p k ha e n ih=>
    have hp:p∈order:=(O.mem p).2 ha.reach
    by_cases hk0:k=0
    ·subst hk0;exact n h.zero_eq.symm
    ·obtain⟨u,hu⟩:=Option.isSome_iff_exists.1 (hall k hk);exact ih hp (hfix k u hk hk0 hu x (h.up_of (fun e=>n e.symm) hu) p e (hall p hp)) ha.reach
 ·intro h;exact I.A x k h (hall k hk)
theorem Inv.full(I:Inv E order pos tp id r)(O:Ordd E order pos tp)(hall:∀j,j∈order→(id j).isSome=true)(hr:∀j,j∈order→order.length≤r j)(x k:Nat)(hk:k∈order):Ch id x k↔Dm E x k:=by
 constructor
 ·intro h;refine⟨(O.mem k).1 hk,fun ha=>?_⟩;obtain⟨s,hs⟩:=ha.av (pos:=pos);exact I.B x k (hall k hk) ((hs.few fun j hj=>(O.mem j).2 hj).mono (hr k hk)) h
 ·intro h;exact I.A x k h (hall k hk)
theorem Inv.still(I:Inv E order pos tp id r)(O:Ordd E order pos tp)(hall:∀j,j∈order→(id j).isSome=true)(hfull:∀x k,k∈order→(Ch id x k↔Dm E x k))(hk:k∈order)(hk0:k≠0){u':Nat}(hu:id k=some u)(hu':(id u').isSome=true)
 (hmeet:∀x,Ch id x u'↔∀p,E p k→(id p).isSome=true→Ch id x p):u'=u:=by
 have hku:=I.up k u hu hk0;have huo:u∈order:=I.mem O hku.2.2;have huo':u'∈order:=I.mem O hu';have hpu:=I.lt O hu hk0;have h1:∀x,Ch id x u→Ch id x u':=fun x hx=>by
  rw[hmeet];intro p e hp;have hd:=(hfull x k hk).1 (.up hk0 hu hx);have hne:x≠k:=fun e=>by
   subst e;have:=(I.ch O hx hku.2.2).2.2;omega
  exact(hfull x p (I.mem O hp)).2 (hd.pred hne ((O.mem p).1 (I.mem O hp)) e)
 have h2:∀x,Ch id x u'→Ch id x u:=fun x hx=>by
  obtain⟨t1,t2,t3⟩:=O.tp k hk hk0;have hxt:=(I.ch O ((hmeet x).1 hx _ t1 (hall _ t2)) (hall _ t2));have hne:x≠k:=fun e=>by
   subst e;have:=hxt.2.2;omega
  have hd:Dm E x k:=by
   refine⟨(O.mem k).1 hk,fun ha=>?_⟩;cases ha with
   |zero=>exact hk0 rfl
   | @step p _ ha e n=>
     have hp:p∈order:=(O.mem p).2 ha.reach;exact((hfull x p hp).1 ((hmeet x).1 hx p e (hall p hp))).2 ha
  exact((hfull x k hk).2 hd).up_of hne hu
 have e1:=(I.ch O (h1 u .refl) hu').2.2;have e2:=(I.ch O (h2 u' .refl) hku.2.2).2.2;exact O.inj _ _ huo' huo (by omega)
end
def EG(g:List (List Nat))(p k:Nat):Prop:=k∈g.getD p []
structure Dfs where
 st:List Nat
 nx:List Nat
 stack:List Nat
 post:List Nat
structure DfsInv(g:List (List Nat))(s:Dfs):Prop where
 lst:s.st.length=g.length
 lnx:s.nx.length=g.length
 le2:∀i,s.st.getD i 0≤2
 inr:∀i,i∈s.stack→i<g.length
 nodup:s.stack.Nodup
 opens:∀i,s.st.getD i 0=1↔i∈s.stack
 lefts:∀i,s.st.getD i 0=2↔i∈s.post
 pnodup:s.post.Nodup
 chain:∀a x y b,s.stack=a++x::y::b→EG g x y
 first:s.stack=[]→∃l,s.post=l++[0]
 bottom:s.stack≠[]→s.stack.head?=some 0
 nle:∀i,s.nx.getD i 0≤(g.getD i []).length
 gone:∀i j k,i<g.length→j<s.nx.getD i 0→(g.getD i [])[j]? =some k→s.st.getD k 0≠0
 full:∀i,i∈s.post→s.nx.getD i 0=(g.getD i []).length
 par:∀a k b,s.post=a++k::b→k≠0→∃p,EG g p k∧(p∈b∨p∈s.stack)
 reach:∀i,(i∈s.stack∨i∈s.post)→Reach (EG g) i
def sumN(l:List Nat):Nat:=l.foldr (· + ·) 0
def dfsMu(g:List (List Nat))(s:Dfs):Nat:=2*sumN ((List.range g.length).map fun i=>(g.getD i []).length-s.nx.getD i 0)+s.stack.length
section
variable {g:List (List Nat)} {s:Dfs}
theorem getD_setN(l:List Nat)(i j v:Nat)(h:i<l.length):(l.set i v).getD j 0=if j=i then v else l.getD j 0:=by
 by_cases e:j=i
 ·subst e;simp[h]
 ·have e':¬i=j:=fun h=>e h.symm
  simp[e,e']
theorem sum_set(f f':Nat→Nat)(n i:Nat)(hi:i<n)(ho:∀j,j≠i→f' j=f j)(hd:f' i+1=f i):sumN ((List.range n).map f')+1=sumN ((List.range n).map f):=by
 have key:∀(l:List Nat),l.Nodup→(i∈l→sumN (l.map f')+1=sumN (l.map f))∧(i∉l→sumN (l.map f')=sumN (l.map f)):=by
  intro l;induction l with
  |nil=>simp
  |cons x l ih=>
   intro hn;obtain⟨h1,h2⟩:=List.nodup_cons.1 hn;obtain⟨i1,i2⟩:=ih h2;constructor
   ·intro hm
    by_cases e:i=x
    ·subst e;have:=i2 h1;simp only[List.map_cons,sumN,List.foldr_cons]at this⊢;omega
    ·have:=i1 (by simpa[e]using hm);simp only[List.map_cons,sumN,List.foldr_cons,ho x (fun h=>e h.symm)]at this⊢;omega
   ·intro hm;simp only[List.mem_cons,not_or]at hm;have:=i2 hm.2;simp only[List.map_cons,sumN,List.foldr_cons,ho x (fun h=>hm.1 h.symm)]at this⊢;omega
 exact(key _ List.nodup_range).1 (List.mem_range.2 hi)
theorem DfsInv.start(hn:0<g.length):DfsInv g ⟨(List.replicate g.length 0).set 0 1,List.replicate g.length 0,[0],[]⟩:=by
 have h0:∀i,((List.replicate g.length 0).set 0 1).getD i 0=if i=0 then 1 else 0:=fun i=>by
  rw[getD_setN _ _ _ _ (by simpa using hn)];split
  ·rfl
  ·simp[List.getElem?_replicate];split<;>rfl
 have hz:∀i,(List.replicate g.length 0).getD i 0=0:=fun i=>by simp[List.getElem?_replicate];split<;>rfl
 refine⟨by simp,by simp,fun i=>by rw[h0];split<;>omega,fun i hi=>by simp at hi;omega,by simp,fun i=>by rw[h0];by_cases e:i=0<;>simp[e],fun i=>by rw[h0];split<;>simp,by simp,?_,by simp,by simp,fun i=>by simp only[hz];omega,?_,by simp,by simp,?_⟩
 ·intro a x y b h;have:=congrArg List.length h;simp at this;omega
 ·intro i j k _ hj;simp only[hz]at hj;omega
 ·intro i hi;rcases hi with hi|hi
  ·simp at hi;subst hi;exact .zero
  ·simp at hi
theorem DfsInv.leave(I:DfsInv g s){a:List Nat}{i:Nat}(hs:s.stack=a++[i])(hf:s.nx.getD i 0=(g.getD i []).length):
 DfsInv g ⟨s.st.set i 2,s.nx,a,s.post++[i]⟩:=by
 have hi:i<g.length:=I.inr i (by simp[hs]);have hset:∀j,(s.st.set i 2).getD j 0=if j=i then 2 else s.st.getD j 0:=fun j=>getD_setN _ _ _ _ (by rw[I.lst];exact hi)
 have hnd:(a++[i]).Nodup:=hs▸I.nodup;have hia:i∉a:=fun h=>by
  rw[List.nodup_append]at hnd;exact hnd.2.2 i h i (by simp) rfl
 have hio:s.st.getD i 0=1:=(I.opens i).2 (by simp[hs]);have hip:i∉s.post:=fun h=>by have:=(I.lefts i).2 h;omega
 refine⟨by simp[I.lst],I.lnx,fun j=>by rw[hset];split;omega;exact I.le2 j,fun j hj=>I.inr j (by simp[hs,hj]),(List.nodup_append.1 hnd).1,?_,?_,?_,?_,?_,?_,I.nle,?_,?_,?_,?_⟩
 ·intro j;rw[hset]
  by_cases e:j=i
  ·subst e;simp[hia]
  ·rw[if_neg e,I.opens,hs];simp[e]
 ·intro j;rw[hset]
  by_cases e:j=i
  ·subst e;simp
  ·rw[if_neg e,I.lefts];simp[e]
 ·rw[List.nodup_append];refine⟨I.pnodup,by simp,?_⟩;intro x hx y hy e;simp at hy;subst hy e;exact hip hx
 ·intro c x y b h;exact I.chain c x y (b++[i]) (by rw[hs];simp only at h;rw[h];simp)
 ·intro h;have h':a=[]:=h;subst h';have:=I.bottom (by simp[hs]);simp[hs]at this;subst this;exact⟨s.post,rfl⟩
 ·intro h;have h':a≠[]:=h;have:=I.bottom (by simp[hs]);rw[hs]at this;obtain⟨y,l,rfl⟩:=List.exists_cons_of_ne_nil h';simpa using this
 ·intro p j k hp hj hk;rw[hset];split
  ·omega
  ·exact I.gone p j k hp hj hk
 ·intro j hj;simp at hj;rcases hj with hj|rfl
  ·exact I.full j hj
  ·exact hf
 ·intro c k b h hk
  by_cases hb:b=[]
  ·subst hb;have he:s.post=c∧i=k:=by
    have:=List.append_inj' h rfl;exact⟨this.1,by simpa using this.2⟩
   obtain⟨rfl,rfl⟩:=he;have ha:a≠[]:=fun e=>by
    subst e;have:=I.bottom (by simp[hs]);simp[hs]at this;exact hk this
   obtain⟨a',p,rfl⟩:∃a' p,a=a'++[p]:=⟨a.dropLast,a.getLast ha,(List.dropLast_concat_getLast ha).symm⟩;exact⟨p,I.chain a' p i [] (by rw[hs];simp),.inr (by simp)⟩
  ·obtain⟨b',y,rfl⟩:∃b' y,b=b'++[y]:=⟨b.dropLast,b.getLast hb,(List.dropLast_concat_getLast hb).symm⟩;have he:s.post=c++k::b'∧i=y:=by
    have :s.post++[i]=(c++k::b')++[y]:=by simpa using h
    have:=List.append_inj' this rfl;exact⟨this.1,by simpa using this.2⟩
   obtain⟨e1,rfl⟩:=he;obtain⟨p,h1,h2⟩:=I.par c k b' e1 hk;refine⟨p,h1,?_⟩;rcases h2 with h2|h2
   ·exact .inl (by simp[h2])
   ·rw[hs]at h2;simp at h2;rcases h2 with h2|rfl
    ·exact .inr h2
    ·exact .inl (by simp)
 ·intro j hj;rcases hj with hj|hj
  ·exact I.reach j (.inl (by rw[hs];simp[show j∈a from hj]))
  ·have hj':j∈s.post++[i]:=hj;simp at hj';rcases hj' with hj'|rfl
   ·exact I.reach j (.inr hj')
   ·exact I.reach j (.inl (by simp[hs]))
theorem DfsInv.leave_mu{a:List Nat}{i:Nat}(hs:s.stack=a++[i])(x:List Nat)(y:List Nat):dfsMu g ⟨x,s.nx,a,y⟩<dfsMu g s:=by
 unfold dfsMu;simp only[hs,List.length_append,List.length_cons,List.length_nil];omega
theorem DfsInv.pass(I:DfsInv g s){i k:Nat}(hi:i<g.length)(hk:(g.getD i [])[s.nx.getD i 0]? =some k)(hn:s.st.getD k 0≠0)(hil:i∈s.stack):
 DfsInv g ⟨s.st,s.nx.set i (s.nx.getD i 0+1),s.stack,s.post⟩:=by
 have hset:∀j,(s.nx.set i (s.nx.getD i 0+1)).getD j 0=if j=i then s.nx.getD i 0+1 else s.nx.getD j 0:=fun j=>getD_setN _ _ _ _ (by rw[I.lnx];exact hi)
 have hlt:s.nx.getD i 0<(g.getD i []).length:=(List.getElem?_eq_some_iff.1 hk).1;refine⟨I.lst,by simp[I.lnx],I.le2,I.inr,I.nodup,I.opens,I.lefts,I.pnodup,I.chain,I.first,I.bottom,?_,?_,?_,I.par,I.reach⟩
 ·intro j;simp only[hset];split
  ·rename_i e;subst e;omega
  ·exact I.nle j
 ·intro p j q hp hj hq;simp only[hset]at hj
  by_cases e:p=i
  ·subst e;rw[if_pos rfl]at hj
   by_cases ej:j=s.nx.getD p 0
   ·subst ej;rw[hk]at hq;cases hq;exact hn
   ·exact I.gone p j q hp (by omega) hq
  ·rw[if_neg e]at hj;exact I.gone p j q hp hj hq
 ·intro j hj;have hne:j≠i:=fun e=>by
   subst e;have h1:=(I.opens j).2 hil;have h2:=(I.lefts j).2 hj;omega
  simp only[hset,if_neg hne];exact I.full j hj
theorem DfsInv.pass_mu(I:DfsInv g s){i k:Nat}(hi:i<g.length)(hk:(g.getD i [])[s.nx.getD i 0]? =some k)(x y z:List Nat)(hz:z.length≤s.stack.length+1):dfsMu g ⟨x,s.nx.set i (s.nx.getD i 0+1),z,y⟩<dfsMu g s:=by
 have hset:∀j,(s.nx.set i (s.nx.getD i 0+1)).getD j 0=if j=i then s.nx.getD i 0+1 else s.nx.getD j 0:=fun j=>getD_setN _ _ _ _ (by rw[I.lnx];exact hi)
 have hlt:s.nx.getD i 0<(g.getD i []).length:=(List.getElem?_eq_some_iff.1 hk).1;have:=sum_set (fun j=>(g.getD j []).length-s.nx.getD j 0) (fun j=>(g.getD j []).length-(s.nx.set i (s.nx.getD i 0+1)).getD j 0) g.length i hi (fun j hj=>by simp only[hset,if_neg hj]) (by simp only[hset,if_true];omega);unfold dfsMu;simp only at this⊢;omega
def restN(g:List (List Nat))(nx:List Nat):Nat:=sumN ((List.range g.length).map fun i=>(g.getD i []).length-nx.getD i 0)
theorem DfsInv.rest(I:DfsInv g s){i k:Nat}(hi:i<g.length)(hk:(g.getD i [])[s.nx.getD i 0]? =some k):restN g (s.nx.set i (s.nx.getD i 0+1))+1=restN g s.nx:=by
 have hset:∀j,(s.nx.set i (s.nx.getD i 0+1)).getD j 0=if j=i then s.nx.getD i 0+1 else s.nx.getD j 0:=fun j=>getD_setN _ _ _ _ (by rw[I.lnx];exact hi)
 have hlt:s.nx.getD i 0<(g.getD i []).length:=(List.getElem?_eq_some_iff.1 hk).1;exact sum_set (fun j=>(g.getD j []).length-s.nx.getD j 0) (fun j=>(g.getD j []).length-(s.nx.set i (s.nx.getD i 0+1)).getD j 0) g.length i hi (fun j hj=>by simp only[hset,if_neg hj]) (by simp only[hset,if_true];omega)
theorem sumN_le(f:Nat→Nat)(b:Nat):∀l:List Nat,(∀i∈l,f i≤b)→sumN (l.map f)≤l.length*b
 | [],_=>by simp[sumN]
 |x::l,h=>by
  have h1:=sumN_le f b l fun i hi=>h i (by simp[hi])
  have h2:=h x (by simp);simp only[List.map_cons,sumN,List.foldr_cons,List.length_cons]at h1⊢;rw[Nat.succ_mul];omega
theorem restN_le{b:Nat}(hb:∀i,(g.getD i []).length≤b)(nx:List Nat):restN g nx≤g.length*b:=by
 have:=sumN_le (fun i=>(g.getD i []).length-nx.getD i 0) b (List.range g.length) fun i _=>by have:=hb i;omega
 simpa[restN]using this
theorem DfsInv.stack_le(I:DfsInv g s):s.stack.length≤g.length:=by
 have:=nodup_le s.stack (List.range g.length) I.nodup fun x hx=>List.mem_range.2 (I.inr x hx)
 simpa using this
theorem DfsInv.post_lt(I:DfsInv g s){i:Nat}(hi:i∈s.post):i<g.length:=by
 by_cases h:i<g.length
 ·exact h
 ·exfalso
  have:=(I.lefts i).2 hi;rw[List.getD_eq_getElem?_getD,List.getElem?_eq_none (by rw[I.lst];omega)]at this;simp at this
theorem DfsInv.post_le(I:DfsInv g s):s.post.length≤g.length:=by
 have:=nodup_le s.post (List.range g.length) I.pnodup fun x hx=>List.mem_range.2 (I.post_lt hx)
 simpa using this
theorem DfsInv.push(I:DfsInv g s){a:List Nat}{i k:Nat}(hs:s.stack=a++[i])(hkl:k<g.length)(hk:(g.getD i [])[s.nx.getD i 0]? =some k)(hn:s.st.getD k 0=0):
 DfsInv g ⟨s.st.set k 1,s.nx.set i (s.nx.getD i 0+1),s.stack++[k],s.post⟩:=by
 have hi:i<g.length:=I.inr i (by simp[hs]);have hset:∀j,(s.nx.set i (s.nx.getD i 0+1)).getD j 0=if j=i then s.nx.getD i 0+1 else s.nx.getD j 0:=fun j=>getD_setN _ _ _ _ (by rw[I.lnx];exact hi)
 have hst:∀j,(s.st.set k 1).getD j 0=if j=k then 1 else s.st.getD j 0:=fun j=>getD_setN _ _ _ _ (by rw[I.lst];exact hkl)
 have hlt:s.nx.getD i 0<(g.getD i []).length:=(List.getElem?_eq_some_iff.1 hk).1;have hks:k∉s.stack:=fun h=>by have:=(I.opens k).2 h;omega
 have hkp:k∉s.post:=fun h=>by have:=(I.lefts k).2 h;omega
 have hil:i∈s.stack:=by simp[hs]
 have hE:EG g i k:=List.mem_of_getElem? hk;refine⟨by simp[I.lst],by simp[I.lnx],fun j=>by rw[hst];split;omega;exact I.le2 j,?_,?_,?_,?_,I.pnodup,?_,by simp,?_,?_,?_,?_,?_,?_⟩
 ·intro j hj;simp at hj;rcases hj with hj|rfl
  ·exact I.inr j hj
  ·exact hkl
 ·simp only;rw[List.nodup_append];refine⟨I.nodup,by simp,?_⟩;intro x hx y hy e;simp at hy;subst hy e;exact hks hx
 ·intro j;rw[hst]
  by_cases e:j=k
  ·subst e;simp
  ·rw[if_neg e,I.opens];simp[e]
 ·intro j;rw[hst]
  by_cases e:j=k
  ·subst e;simp[hkp]
  ·rw[if_neg e,I.lefts]
 ·intro c x y b h
  by_cases hb:b=[]
  ·subst hb;have h':s.stack++[k]=(c++[x])++[y]:=by simpa using h
   obtain⟨e1,e2⟩:=List.append_inj' h' rfl;rw[hs]at e1;obtain⟨_,e3⟩:=List.append_inj' e1 rfl;simp at e2 e3;subst e2 e3;exact hE
  ·obtain⟨b',z,rfl⟩:∃b' z,b=b'++[z]:=⟨b.dropLast,b.getLast hb,(List.dropLast_concat_getLast hb).symm⟩;have h':s.stack++[k]=(c++x::y::b')++[z]:=by simpa using h
   exact I.chain c x y b' (List.append_inj' h' rfl).1
 ·intro _;have:=I.bottom (by simp[hs]);simp only;rw[hs]at this⊢;cases a with
  |nil=>simpa using this
  |cons z l=>simpa using this
 ·intro j;simp only[hset];split
  ·rename_i e;subst e;omega
  ·exact I.nle j
 ·intro p j q hp hj hq;rw[hst];split
  ·omega
  ·simp only[hset]at hj
   by_cases e:p=i
   ·subst e;rw[if_pos rfl]at hj
    by_cases ej:j=s.nx.getD p 0
    ·subst ej;rw[hk]at hq;cases hq;rename_i hne;exact absurd rfl hne
    ·exact I.gone p j q hp (by omega) hq
   ·rw[if_neg e]at hj;exact I.gone p j q hp hj hq
 ·intro j hj;have hne:j≠i:=fun e=>by
   subst e;have h1:=(I.opens j).2 hil;have h2:=(I.lefts j).2 hj;omega
  simp only[hset,if_neg hne];exact I.full j hj
 ·intro c q b h hq;obtain⟨p,h1,h2⟩:=I.par c q b h hq;refine⟨p,h1,?_⟩;rcases h2 with h2|h2
  ·exact .inl h2
  ·exact .inr (by simp[h2])
 ·intro j hj;rcases hj with hj|hj
  ·have hj':j∈s.stack++[k]:=hj;simp at hj';rcases hj' with hj'|rfl
   ·exact I.reach j (.inl hj')
   ·exact .step (I.reach i (.inl hil)) hE
  ·exact I.reach j (.inr hj)
theorem DfsInv.ordd(I:DfsInv g s)(hs:s.stack=[]):
 (∃l,s.post.reverse=0::l)∧s.post.Nodup∧∃tp,Ordd (EG g) s.post.reverse (fun k=>s.post.reverse.idxOf k) tp:=by
 obtain⟨l,hl⟩:=I.first hs
 have h0:0∈s.post:=by simp[hl]
 have hpost:∀i,i∈s.post→i<g.length:=fun i hi=>by
  by_cases h:i<g.length
  ·exact h
  ·exfalso
   have:=(I.lefts i).2 hi;rw[List.getD_eq_getElem?_getD,List.getElem?_eq_none (by rw[I.lst];omega)]at this;simp at this
 have hclosed:∀i,Reach (EG g) i→i∈s.post:=fun i hi=>by
  induction hi with
  |zero=>exact h0
  | @step p k _ e ih=>
    obtain⟨j,hj,he⟩:=List.mem_iff_getElem.1 (show k∈g.getD p []from e);have hk0:=I.gone p j k (hpost p ih) (by rw[I.full p ih];exact hj) (by rw[List.getElem?_eq_getElem hj,he]);have h1:s.st.getD k 0≠1:=fun h=>by
     have:=(I.opens k).1 h;rw[hs]at this;cases this
    have:=I.le2 k;exact(I.lefts k).1 (by omega)
 refine⟨⟨l.reverse,by simp[hl]⟩,I.pnodup,?_⟩;have hpar:∀k,k∈s.post→k≠0→∃p,EG g p k∧p∈s.post∧s.post.reverse.idxOf p<s.post.reverse.idxOf k:=fun k hk h0=>by
  obtain⟨a,b,hab⟩:=List.append_of_mem hk;obtain⟨p,h1,h2⟩:=I.par a k b hab h0;rw[hs]at h2;rcases h2 with h2|h2
  ·refine⟨p,h1,by simp[hab,h2],?_⟩;have hnd:(a++k::b).Nodup:=hab▸I.pnodup;have hkb:k∉b:=fun h=>(List.nodup_cons.1 (List.nodup_append.1 hnd).2.1).1 h
   have e:s.post.reverse=b.reverse++k::a.reverse:=by rw[hab];simp
   rw[e,List.idxOf_append,List.idxOf_append,if_pos (by simpa using h2),if_neg (by simpa using hkb)];have:=List.idxOf_lt_length_of_mem (show p∈b.reverse by simpa using h2);omega
  ·cases h2
 refine⟨fun k=>if h:k∈s.post∧k≠0 then Classical.choose (hpar k h.1 h.2)else 0,⟨fun k=>?_,fun i j hi hj e=>?_,fun k hk hk0=>?_⟩⟩
 ·rw[List.mem_reverse];exact⟨fun h=>I.reach k (.inr h),hclosed k⟩
 ·have h1:s.post.reverse[s.post.reverse.idxOf i]? =some i:=by rw[List.getElem?_eq_getElem (List.idxOf_lt_length_of_mem hi),List.getElem_idxOf]
  have h2:s.post.reverse[s.post.reverse.idxOf j]? =some j:=by rw[List.getElem?_eq_getElem (List.idxOf_lt_length_of_mem hj),List.getElem_idxOf]
  rw[e,h2]at h1;exact(Option.some.inj h1).symm
 ·have hk':k∈s.post:=by simpa using hk
  have hc:=Classical.choose_spec (hpar k hk' hk0);simp only[hk',hk0,ne_eq,not_false_iff,and_self,dif_pos];exact⟨hc.1,by simpa using hc.2.1,hc.2.2⟩
end
def EI(g:List (List Int))(p k:Nat):Prop:=k<g.length∧(k:Int)∈g.getD p []
section
variable {E:Nat→Nat→Prop}
end
section
variable {g:List (List Int)} {x:Int} {seen:List Bool} {todo cur:List Nat}
end
structure TreeOk(E:Nat→Nat→Prop)(n:Nat)(idm dep:List Int):Prop where
 li:idm.length=n
 ld:dep.length=n
 root:0<n→idm.getD 0 0= -1∧dep.getD 0 0=0
 out:∀k,k<n→¬Reach E k→idm.getD k 0= -1
 up:∀k,k<n→k≠0→Reach E k→∃u:Nat,idm.getD k 0=u∧u<n∧Reach E u∧(∀x,x≠k→(Dm E x k↔Dm E x u))∧dep.getD k 0=dep.getD u 0+1∧0≤dep.getD u 0
section
variable {E:Nat→Nat→Prop} {n:Nat} {idm dep:List Int}
theorem TreeOk.dep0(T:TreeOk E n idm dep){k:Nat}(hk:k<n)(hr:Reach E k):0≤dep.getD k 0:=by
 by_cases h0:k=0
 ·subst h0;rw[(T.root hk).2];omega
 ·obtain⟨u,_,_,_,_,h1,h2⟩:=T.up k hk h0 hr;omega
theorem TreeOk.low(T:TreeOk E n idm dep)(a:Nat):∀(d b:Nat),b<n→Reach E b→(dep.getD b 0).toNat≤d→Dm E a b→a=b∨dep.getD a 0<dep.getD b 0:=by
 intro d;induction d with
 |zero=>
  intro b hb hr hd ha
  by_cases h0:b=0
  ·subst h0;exact .inl ha.zero_of
  ·obtain⟨u,_,_,_,_,h1,h2⟩:=T.up b hb h0 hr;omega
 |succ d ih=>
  intro b hb hr hd ha
  by_cases h0:b=0
  ·subst h0;exact .inl ha.zero_of
  ·by_cases e:a=b
   ·exact .inl e
   ·obtain⟨u,_,hu,hru,h3,h1,h2⟩:=T.up b hb h0 hr;rcases ih u hu hru (by omega) ((h3 a e).1 ha)with rfl|h
    ·exact .inr (by omega)
    ·exact .inr (by omega)
theorem TreeOk.above_end(T:TreeOk E n idm dep){a b:Nat}(hb:b<n)(hr:Reach E b)(hd:dep.getD b 0≤dep.getD a 0):Dm E a b↔a=b:=by
 constructor
 ·intro h;rcases T.low a _ b hb hr (Nat.le_refl _) h with h|h
  ·exact h
  ·omega
 ·rintro rfl;exact Dm.refl hr
theorem TreeOk.above_step(T:TreeOk E n idm dep){a b:Nat}(ha:a<n)(hra:Reach E a)(hb:b<n)(hr:Reach E b)(hd:dep.getD a 0<dep.getD b 0):
 ∃u:Nat,idm.getD b 0=u∧u<n∧Reach E u∧(Dm E a b↔Dm E a u)∧dep.getD b 0=dep.getD u 0+1:=by
 have h0:b≠0:=fun e=>by
  subst e;have:=T.dep0 ha hra;rw[(T.root hb).2]at hd;omega
 obtain⟨u,h1,h2,h3,h4,h5,_⟩:=T.up b hb h0 hr;exact⟨u,h1,h2,h3,h4 a (fun e=>by subst e;omega),h5⟩
theorem TreeOk.there(T:TreeOk E n idm dep){k:Nat}(hk:k<n)(h0:k≠0):(idm.getD k 0≠-1)↔Reach E k:=by
 constructor
 ·intro h
  by_cases hr:Reach E k
  ·exact hr
  ·exact absurd (T.out k hk hr) h
 ·intro hr;obtain⟨u,h1,_⟩:=T.up k hk h0 hr;omega
end
def nats(l:List Nat):List Int:=l.map Int.ofNat
def addE(n:Nat)(acc:List Nat)(k:Int):List Nat:=if 0≤k∧k<n∧k.toNat∉acc then acc++[k.toNat]else acc
def cleanRow(n:Nat)(l:List Int):List Nat:=l.foldl (addE n) []
def cleanF(g:List (List Int)):List (List Nat):=g.map (cleanRow g.length)
section
variable {n:Nat} {g:List (List Int)}
theorem cleanRow_snoc(l:List Int)(k:Int):cleanRow n (l++[k])=addE n (cleanRow n l) k:=by simp[cleanRow,List.foldl_append]
theorem mem_addE{acc:List Nat}{k:Int}{j:Nat}:j∈addE n acc k↔j∈acc∨(j<n∧(j:Int)=k):=by
 unfold addE;split
 ·rename_i h;simp only[List.mem_append,List.mem_singleton];constructor
  ·rintro(h1|rfl)
   ·exact .inl h1
   ·exact .inr ⟨by omega,by omega⟩
  ·rintro(h1|⟨_,h2⟩)
   ·exact .inl h1
   ·exact .inr (by omega)
 ·rename_i h;constructor
  ·exact .inl
  ·rintro(h1|⟨h2,h3⟩)
   ·exact h1
   ·subst h3
    by_cases hj:j∈acc
    ·exact hj
    ·exact absurd ⟨by omega,by omega,by simpa using hj⟩ h
theorem mem_cleanRow{l:List Int}{j:Nat}:j∈cleanRow n l↔j<n∧(j:Int)∈l:=by
 have key:∀(l:List Int) (acc:List Nat),j∈l.foldl (addE n) acc↔j∈acc∨(j<n∧(j:Int)∈l):=by
  intro l;induction l with
  |nil=>simp
  |cons k l ih=>
   intro acc;rw[List.foldl_cons,ih,mem_addE];simp only[List.mem_cons];constructor
   ·rintro((h|⟨h1,h2⟩)|⟨h1,h2⟩)
    ·exact .inl h
    ·exact .inr ⟨h1,.inl h2⟩
    ·exact .inr ⟨h1,.inr h2⟩
   ·rintro(h|⟨h1,h2|h2⟩)
    ·exact .inl (.inl h)
    ·exact .inl (.inr ⟨h1,h2⟩)
    ·exact .inr ⟨h1,h2⟩
 have:=key l [];simpa[cleanRow]using this
theorem cleanRow_nodup(l:List Int):(cleanRow n l).Nodup:=by
 have key:∀(l:List Int) (acc:List Nat),acc.Nodup→(l.foldl (addE n) acc).Nodup:=by
  intro l;induction l with
  |nil=>intro acc h;exact h
  |cons k l ih=>
   intro acc h;rw[List.foldl_cons];refine ih _ ?_;unfold addE;split
   ·rename_i h1;rw[List.nodup_append];exact⟨h,by simp,fun x hx y hy e=>by simp at hy;subst hy e;exact h1.2.2 hx⟩
   ·exact h
 exact key l [] List.nodup_nil
theorem cleanRow_len(l:List Int):(cleanRow n l).length≤n:=by
 have:=nodup_le (cleanRow n l) (List.range n) (cleanRow_nodup l) fun x hx=>List.mem_range.2 (mem_cleanRow.1 hx).1
 simpa using this
theorem cleanF_len:(cleanF g).length=g.length:=by simp[cleanF]
theorem cleanF_at(p:Nat):(cleanF g).getD p []=if p<g.length then cleanRow g.length (g.getD p [])else[]:=by
 unfold cleanF;split
 ·rename_i h;simp[h]
 ·rename_i h;rw[List.getD_eq_getElem?_getD,List.getElem?_eq_none (by simp;omega)];rfl
theorem eg_clean(p k:Nat):EG (cleanF g) p k↔EI g p k:=by
 unfold EG EI;rw[cleanF_at];split
 ·rw[mem_cleanRow]
 ·rename_i h;rw[List.getD_eq_getElem?_getD,List.getElem?_eq_none (by omega)];simp
def predsTo(c:List (List Nat))(i j k:Nat):List Nat:=(List.range i).filter (fun p=>decide (k∈c.getD p []))++(if k∈(c.getD i []).take j then[i]else[])
def predsF(c:List (List Nat)):List (List Nat):=(List.range c.length).map fun k=>(List.range c.length).filter (fun p=>decide (k∈c.getD p []))
variable {c:List (List Nat)}
theorem predsTo_row{i j:Nat}(hj:(c.getD i []).length≤j)(k:Nat):predsTo c i j k=predsTo c (i+1) 0 k:=by
 unfold predsTo;rw[List.take_of_length_le hj,List.range_succ,List.filter_append];generalize hf:(fun p=>decide (k∈c.getD p []))=f;have hfi:f i=decide (k∈c.getD i []):=by rw[←hf]
 by_cases h:k∈c.getD i []
 ·simp only[h,decide_true]at hfi;rw[if_pos h];simp[hfi]
 ·simp only[h,decide_false]at hfi;rw[if_neg h];simp[hfi]
theorem predsTo_step{i j q:Nat}(hn:(c.getD i []).Nodup)(hq:(c.getD i [])[j]? =some q)(k:Nat):predsTo c i (j+1) k=if k=q then predsTo c i j k++[i]else predsTo c i j k:=by
 obtain⟨hj,hjq⟩:=List.getElem?_eq_some_iff.1 hq;have ht:(c.getD i []).take (j+1)=(c.getD i []).take j++[q]:=by rw[List.take_succ_eq_append_getElem hj,hjq]
 have hnot:q∉(c.getD i []).take j:=fun h=>by
  have h2:((c.getD i []).take (j+1)).Nodup:=hn.sublist (List.take_sublist _ _);rw[ht,List.nodup_append]at h2;exact h2.2.2 q h q (by simp) rfl
 unfold predsTo;rw[ht];generalize(c.getD i []).take j=l at*
 by_cases e:k=q
 ·subst e;simp[hnot]
 ·simp[e]
end
def idOf(l:List Int)(k:Nat):Option Nat:=if l.getD k (-1)<0 then none else some (l.getD k (-1)).toNat
section
variable {l:List Int} {k u:Nat}
theorem idOf_set(h:k<l.length):idOf (l.set k (u:Int))=updF (idOf l) k (some u):=by
 funext j;unfold idOf updF
 by_cases e:j=k
 ·subst e;simp[h]
 ·have e':¬k=j:=fun h=>e h.symm
  simp[e,e']
theorem idOf_some(h:idOf l k=some u):l.getD k (-1)=u:=by
 unfold idOf at h;split at h
 ·cases h
 ·cases h;omega
theorem idOf_none(hn:l.getD k (-1)= -1∨0≤l.getD k (-1))(h:idOf l k=none):l.getD k (-1)= -1:=by
 unfold idOf at h;split at h
 ·omega
 ·cases h
theorem idOf_lt(h:idOf l k=some u):k<l.length:=by
 by_cases hk:k<l.length
 ·exact hk
 ·unfold idOf at h;rw[List.getD_eq_getElem?_getD,List.getElem?_eq_none (by omega)]at h;simp at h
theorem getD_neg{k:Nat}(hk:k<l.length):l.getD k (-1)=l.getD k 0:=by simp[hk]
end
section
variable {E:Nat→Nat→Prop} {order:List Nat} {pos tp:Nat→Nat} {n:Nat} {idl:List Int} {r:Nat→Nat} {R m k u:Nat} {ch:Bool}
theorem Inv.bump(I:Inv E order pos tp (idOf idl) r)(R:Nat):Inv E order pos tp (idOf idl) (updN r 0 R):=by
 refine⟨I.zero,I.up,I.A,fun x j hj ha hc=>?_⟩
 by_cases e:j=0
 ·subst e;exact ha.ne hc.zero_eq
 ·exact I.B x j hj (by simpa[updN,e]using ha) hc
structure SetR(E:Nat→Nat→Prop)(order:List Nat)(pos tp:Nat→Nat)(n:Nat)(idl:List Int)(r:Nat→Nat)(R m:Nat)(ch:Bool):Prop where
 len:idl.length=n
 neg:∀k,idl.getD k (-1)= -1∨0≤idl.getD k (-1)
 inv:Inv E order pos tp (idOf idl) r
 bef:∀j,j∈order→pos j<m→(idOf idl j).isSome=true∧R≤r j
 aft:1≤R→∀j,j∈order→(idOf idl j).isSome=true∧R-1≤r j
 top:∀j,(idOf idl j).isSome=true→r j≤R
 fix:ch=false→∀k,k∈order→k≠0→pos k<m→∀u,idOf idl k=some u→∀x,Ch (idOf idl) x u→∀p,E p k→(idOf idl p).isSome=true→Ch (idOf idl) x p
 few:order.length+1≤R→ch=false
structure Meets(E:Nat→Nat→Prop)(idl:List Int)(k u:Nat):Prop where
 is:(idOf idl u).isSome=true
 all:∀x,Ch (idOf idl) x u↔∀p,E p k→(idOf idl p).isSome=true→Ch (idOf idl) x p
theorem SetR.begin0(hn:0<n)(h0:pos 0=0)(O:Ordd E order pos tp):SetR E order pos tp n ((List.replicate n (-1)).set 0 0) (fun _=>0) 0 1 false:=by
 have hg:∀k,((List.replicate n (-1:Int)).set 0 0).getD k (-1)=if k=0 then 0 else -1:=fun k=>by
  by_cases e:k=0
  ·subst e;simp[hn]
  ·have e':¬0=k:=fun h=>e h.symm
   simp only[List.getD_eq_getElem?_getD,List.getElem?_set_ne e',List.getElem?_replicate,if_neg e];split<;>rfl
 have hid:∀k,idOf ((List.replicate n (-1:Int)).set 0 0) k=if k=0 then some 0 else none:=fun k=>by
  unfold idOf;rw[hg]
  by_cases e:k=0<;>simp[e]
 have hk0:∀k,(idOf ((List.replicate n (-1:Int)).set 0 0) k).isSome=true→k=0:=fun k h=>by
  rw[hid]at h;split at h
  ·assumption
  ·cases h
 refine⟨by simp,fun k=>by rw[hg];split<;>omega,⟨by rw[hid];simp,fun k u h h1=>?_,fun x k hd h=>?_,fun x k h ha hc=>?_⟩,fun j hj hp=>?_,by omega,fun _ _=>Nat.le_refl _,fun _ k hk hk0 hp=>?_,by omega⟩
 ·rw[hid,if_neg h1]at h;cases h
 ·obtain rfl:=hk0 k h;rw[hd.zero_of];exact .refl
 ·obtain rfl:=hk0 k h;exact ha.ne hc.zero_eq
 ·have :j=0:=O.inj j 0 hj ((O.mem 0).2 .zero) (by omega);subst this;exact⟨by rw[hid];rfl,Nat.le_refl _⟩
 ·have :k=0:=O.inj k 0 hk ((O.mem 0).2 .zero) (by omega);exact absurd this hk0
theorem SetR.again(S:SetR E order pos tp n idl r R order.length true)(O:Ordd E order pos tp)(h0:pos 0=0)(hpos:∀j,j∈order→pos j<order.length):SetR E order pos tp n idl (updN r 0 (R+1)) (R+1) 1 false:=by
 have hR:R≤order.length:=by
  by_cases h:order.length+1≤R
  ·cases S.few h
  ·omega
 have hz:∀j,j∈order→pos j<1→j=0:=fun j hj hp=>O.inj j 0 hj ((O.mem 0).2 .zero) (by omega)
 refine⟨S.len,S.neg,S.inv.bump _,fun j hj hp=>?_,fun _ j hj=>?_,fun j hj=>?_,fun _ k hk hk0 hp=>absurd (hz k hk hp) hk0,fun _=>rfl⟩
 ·obtain rfl:=hz j hj hp;exact⟨(S.bef 0 hj (by have:=hpos 0 hj;omega)).1,by simp[updN]⟩
 ·obtain⟨h1,h2⟩:=S.bef j hj (hpos j hj);refine⟨h1,?_⟩;unfold updN;split<;>omega
 ·have:=S.top j hj;unfold updN;split<;>omega
theorem SetR.same(S:SetR E order pos tp n idl r R m ch)(O:Ordd E order pos tp)(hk:k∈order)(hk0:k≠0)(hm:pos k=m)(hu:idOf idl k=some u)(M:Meets E idl k u):
 SetR E order pos tp n idl (updN r k R) R (m+1) ch:=by
 have hset:idl.set k (u:Int)=idl:=by
  have hl:=idOf_lt hu;have:=idOf_some hu;apply List.ext_getElem?;intro j
  by_cases e:k=j
  ·subst e;rw[List.getElem?_set_self hl,List.getElem?_eq_getElem hl];rw[List.getD_eq_getElem?_getD,List.getElem?_eq_getElem hl]at this;simp at this;rw[this]
  ·rw[List.getElem?_set_ne e]
 have hI:=S.inv.look O hk hk0 (fun j hj hp=>S.bef j hj (by omega)) S.aft S.top M.is M.all;rw[←idOf_set (idOf_lt hu),hset]at hI;refine⟨S.len,S.neg,hI,fun j hj hp=>?_,fun h1 j hj=>?_,fun j hj=>?_,fun hc j hj hj0 hp v hv x hx p e hp'=>?_,S.few⟩
 ·by_cases e:j=k
  ·subst e;exact⟨by rw[hu];rfl,by simp[updN]⟩
  ·have hne:pos j≠m:=fun h=>e (O.inj j k hj hk (by omega))
   simpa[updN,e]using S.bef j hj (by omega)
 ·obtain⟨h2,h3⟩:=S.aft h1 j hj;refine⟨h2,?_⟩;unfold updN;split<;>omega
 ·have:=S.top j hj;unfold updN;split<;>omega
 ·by_cases e':j=k
  ·subst e';rw[hu]at hv;cases hv;exact(M.all x).1 hx p e hp'
  ·have hne:pos j≠m:=fun h=>e' (O.inj j k hj hk (by omega))
   exact S.fix hc j hj hj0 (by omega) v hv x hx p e hp'
theorem SetR.turn(S:SetR E order pos tp n idl r R m ch)(O:Ordd E order pos tp)(hk:k∈order)(hkn:k<n)(hk0:k≠0)(hm:pos k=m)(M:Meets E idl k u)(hne:idOf idl k≠some u):
 SetR E order pos tp n (idl.set k (u:Int)) (updN r k R) R (m+1) true:=by
 have hkl:k<idl.length:=by rw[S.len];exact hkn
 have hI:=S.inv.look O hk hk0 (fun j hj hp=>S.bef j hj (by omega)) S.aft S.top M.is M.all;have hid:=idOf_set (u:=u) hkl;rw[←hid]at hI;have hsome:∀j,(idOf idl j).isSome=true→(idOf (idl.set k (u:Int)) j).isSome=true:=fun j h=>by
  rw[hid];unfold updF;split
  ·rfl
  ·exact h
 refine⟨by simp[S.len],fun j=>?_,hI,fun j hj hp=>?_,fun h1 j hj=>?_,fun j hj=>?_,by simp,fun hR=>?_⟩
 ·by_cases e:j=k
  ·subst e;simp[hkl]
  ·have e':¬k=j:=fun h=>e h.symm
   have:=S.neg j;simpa[e']using this
 ·by_cases e:j=k
  ·subst e;exact⟨by rw[hid];simp[updF],by simp[updN]⟩
  ·have hne:pos j≠m:=fun h=>e (O.inj j k hj hk (by omega))
   obtain⟨h1,h2⟩:=S.bef j hj (by omega);exact⟨hsome j h1,by simpa[updN,e]using h2⟩
 ·obtain⟨h2,h3⟩:=S.aft h1 j hj;refine⟨hsome j h2,?_⟩;unfold updN;split<;>omega
 ·unfold updN;split
  ·exact Nat.le_refl _
  ·rename_i e;refine S.top j ?_;rw[hid]at hj;simpa[updF,e]using hj
 ·exfalso
  have hall:∀j,j∈order→(idOf idl j).isSome=true:=fun j hj=>(S.aft (by omega) j hj).1
  obtain⟨v,hv⟩:=Option.isSome_iff_exists.1 (hall k hk);have hfull:=fun x j hj=>S.inv.full O hall (fun j hj=>by have:=(S.aft (by omega) j hj).2;omega) x j hj
  have:=S.inv.still O hall hfull hk hk0 hv M.is M.all;subst this;exact hne hv
theorem SetR.fin(S:SetR E order pos tp n idl r R order.length false)(O:Ordd E order pos tp)(hpos:∀j,j∈order→pos j<order.length)(hk:k∈order)(hk0:k≠0):
 ∃u:Nat,idl.getD k (-1)=u∧u∈order∧pos u<pos k∧∀x,x≠k→(Dm E x k↔Dm E x u):=by
 have hall:∀j,j∈order→(idOf idl j).isSome=true:=fun j hj=>(S.bef j hj (hpos j hj)).1
 have hd:=fun x j hj=>S.inv.done O hall (fun k u hk hk0 hu=>S.fix rfl k hk hk0 (hpos k hk) u hu) x j hj
 obtain⟨u,hu⟩:=Option.isSome_iff_exists.1 (hall k hk);have hus:=(S.inv.up k u hu hk0).2.2;have huo:=S.inv.mem O hus;refine⟨u,idOf_some hu,huo,S.inv.lt O hu hk0,fun x hx=>?_⟩;rw[←hd x k hk,←hd x u huo];exact⟨fun h=>h.up_of hx hu,fun h=>.up hk0 hu h⟩
theorem SetR.out(S:SetR E order pos tp n idl r R m ch)(O:Ordd E order pos tp){k:Nat}(hk:k∉order):idl.getD k (-1)= -1:=by
 refine idOf_none (S.neg k) ?_;cases h:idOf idl k with
 |none=>rfl
 |some u=>exact absurd (S.inv.mem O (by rw[h];rfl)) hk
structure MeetTo(idl:List Int)(P:List Nat)(up:Int):Prop where
 no:up= -1→∀p,p∈P→idOf idl p=none
 yes:up≠-1→∃u:Nat,up=u∧(idOf idl u).isSome=true∧∀x,Ch (idOf idl) x u↔∀p,p∈P→(idOf idl p).isSome=true→Ch (idOf idl) x p
theorem MeetTo.start(idl:List Int):MeetTo idl [] (-1):=⟨fun _ p hp=>(by cases hp),fun h=>absurd rfl h⟩
theorem MeetTo.skip{P:List Nat}{up:Int}{p:Nat}(T:MeetTo idl P up)(h:idOf idl p=none):MeetTo idl (P++[p]) up:=by
 refine⟨fun e q hq=>?_,fun e=>?_⟩
 ·simp at hq;rcases hq with hq|rfl
  ·exact T.no e q hq
  ·exact h
 ·obtain⟨u,h1,h2,h3⟩:=T.yes e;refine⟨u,h1,h2,fun x=>(h3 x).trans ⟨fun hh q hq hs=>?_,fun hh q hq hs=>hh q (by simp[hq]) hs⟩⟩;simp at hq;rcases hq with hq|rfl
  ·exact hh q hq hs
  ·rw[h]at hs;cases hs
theorem MeetTo.first{P:List Nat}{p:Nat}(T:MeetTo idl P (-1))(h:(idOf idl p).isSome=true):MeetTo idl (P++[p]) (p:Int):=by
 refine⟨fun e=>by omega,fun _=>⟨p,rfl,h,fun x=>⟨fun hx q hq hs=>?_,fun hh=>hh p (by simp) h⟩⟩⟩;simp at hq;rcases hq with hq|rfl
 ·rw[T.no rfl q hq]at hs;cases hs
 ·exact hx
theorem MeetTo.meet{P:List Nat}{a p v:Nat}(T:MeetTo idl P (a:Int))(h:(idOf idl p).isSome=true)(hv:(idOf idl v).isSome=true)(hm:∀x,Ch (idOf idl) x v↔Ch (idOf idl) x a∧Ch (idOf idl) x p):MeetTo idl (P++[p]) (v:Int):=by
 refine⟨fun e=>by omega,fun _=>⟨v,rfl,hv,fun x=>?_⟩⟩;obtain⟨u,h1,h2,h3⟩:=T.yes (by omega);obtain rfl:a=u:=by omega
 rw[hm x,h3 x];constructor
 ·rintro⟨g1,g2⟩ q hq hs;simp at hq;rcases hq with hq|rfl
  ·exact g1 q hq hs
  ·exact g2
 ·intro g;exact⟨fun q hq hs=>g q (by simp[hq]) hs,g p (by simp) h⟩
theorem MeetTo.all{P:List Nat}{up:Int}(T:MeetTo idl P up)(hP:∀p,E p k→(idOf idl p).isSome=true→p∈P)(hE:∀p,p∈P→E p k){p0:Nat}(hp0:E p0 k)(hs0:(idOf idl p0).isSome=true):∃u:Nat,up=u∧Meets E idl k u:=by
 have hne:up≠-1:=fun e=>by
  rw[T.no e p0 (hP p0 hp0 hs0)]at hs0;cases hs0
 obtain⟨u,h1,h2,h3⟩:=T.yes hne;exact⟨u,h1,h2,fun x=>(h3 x).trans ⟨fun g p e hs=>g p (hP p e hs) hs,fun g p hp hs=>g p (hE p hp) hs⟩⟩
end
end Go.Proofs.YtgbgbmdiomhfiaaGreatDoor