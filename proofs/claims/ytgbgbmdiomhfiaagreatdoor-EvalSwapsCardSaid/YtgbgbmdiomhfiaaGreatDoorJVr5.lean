/-
 Own, Vr2, Vr3, Vr4, Vr5, Concat.
-/
import Derived.WalkSpells
import Derived.Laws.LoneSync
import Derived.Test.YtgbgbmdiomhfiaaGreatDoorJVr1
import Derived.Test.YtgbgbmdiomhfiaaGreatDoorJMk
set_option linter.unusedSimpArgs false
set_option linter.unusedVariables false
set_option maxHeartbeats 4000000
set_option maxRecDepth 100000
namespace Go.Proofs.YtgbgbmdiomhfiaaGreatDoor
open Go.RowKit Go.Maps
section
variable {w w':World} {base:Nat} {e:TypeId} {size n c:Nat} {v:Value} {A:Option Addr} {xs:List Value}
theorem own_base(h:w.ownsRow base e size v n xs){b':Nat}(hb:b'≤base):w.ownsRow b' e size v n xs:=by
 refine⟨h.1,?_⟩;rcases h.2 with h0|⟨g,cap,cur,h1,h2,h3⟩
 ·exact .inl h0
 ·exact .inr ⟨g,cap,cur,h1,by omega,h3⟩
theorem own_take(h:w.ownsRow base e 1 (.slice A n c) n xs){k:Nat}(hk:k≤n)(h0:A=none→k=0):w.ownsRow base e 1 (.slice A k c) k (xs.take k):=by
 have hl:=h.1;refine⟨by simp;omega,?_⟩;rcases h.2 with⟨hv,hn⟩|⟨g,cap,cur,hv,h1,h2,h3,h4,h5,h6⟩
 ·cases hv;exact .inl ⟨by rw[h0 rfl],h0 rfl⟩
 ·cases hv;refine .inr ⟨g,c,cur,rfl,h1,h2,by omega,h4,h5,?_⟩;rw[←h6,List.take_take];congr 1;omega
def Apart(v1 v2:Value):Prop:=∀g,v1.ownBlock=some g→v2.ownBlock≠some g
theorem Apart.symm{v1 v2:Value}(h:Apart v1 v2):Apart v2 v1:=fun g h1 h2=>h g h2 h1
theorem Apart.none{v:Value}(k m:Nat):Apart (.slice none k m) v:=fun g h=>by simp[Value.ownBlock]at h
theorem Apart.next{v1 v1' v2:Value}{m:Nat}{ys:List Value}{b':Nat}{e':TypeId}{s':Nat}(h:Apart v1 v2)(h2:w.ownsRow b' e' s' v2 m ys)(hat:v1'.ownBlock=v1.ownBlock∨v1'.ownBlock=some w.heap.size):Apart v1' v2:=fun g hg=>by
 rcases hat with hat|hat
 ·exact h g (by rw[←hat];exact hg)
 ·intro h3;have:=h2.lt g h3;rw[hat]at hg;cases hg;omega
theorem Apart.same{v1 v1' v2:Value}(h:Apart v1 v2)(hat:v1'.ownBlock=v1.ownBlock):Apart v1' v2:=fun g hg=>h g (by rw[←hat];exact hg)
theorem uS{row:Option Nat}(h:w.ownsRow base e size v n xs)(hg:w.grownBy w' row)(hne:v.ownBlock≠row∨v.ownBlock=none):w'.ownsRow base e size v n xs:=h.kept hg hne.symm
theorem own_apart{v2:Value}(h:w.ownsRow base e size v n xs)(hg:w.grownBy w' v2.ownBlock)(hne:Apart v v2):w'.ownsRow base e size v n xs:=h.kept hg (by
 cases hv:v.ownBlock with
 |none=>exact .inl rfl
 |some g=>exact .inr fun e=>hne g hv e.symm)
theorem own_below{B:Nat}(h:w.ownsRow base e size v n xs)(hb:Below B w w')(hB:w.heap.size≤B):w'.ownsRow base e size v n xs:=by
 refine h.kept (row:=none) ⟨hb.os,hb.tape,hb.output,hb.size,fun k hk _=>hb.block k (by omega)⟩ ?_;cases v.ownBlock<;>simp
theorem uI{B:Nat}(hb:Below B w w')(hB:w.heap.size≤B)(row:Option Nat):w.grownBy w' row:=⟨hb.os,hb.tape,hb.output,hb.size,fun k hk _=>hb.block k (by omega)⟩
theorem uF{g:Nat}(hb:g<base)(h:w.ownsRow base e size v n xs):v.ownBlock≠some g:=fun hg=>by
 have:=(h.lt g hg).1;omega
end
section
variable {w w' w2:World} {S:Nat→Prop}
theorem Kept.alloc(h:Kept S w w')(hS:∀b,S b→b<w'.heap.size)(o:Obj):Kept S w (w'.alloc o):=fun p hp=>(World.cell?_alloc_lt w' o p (hS _ hp)).trans (h p hp)
theorem Kept.grown{row:Option Nat}(h:Kept S w w')(hg:w'.grownBy w2 row)(hS:∀b,S b→b<w'.heap.size)(hne:∀b,S b→some b≠row):Kept S w w2:=fun p hp=>(World.cell?_of_block (hg.block p.block (hS _ hp) (hne _ hp))).trans (h p hp)
theorem Kept.set{p:Addr}(h:Kept S w w')(hp:¬S p.block)(u:Value):Kept S w (w'.setCell p u):=fun q hq=>(World.cell?_of_block (Below.heap_setCell _ _ _ _ (fun e=>hp (e▸hq)))).trans (h q hq)
end
abbrev hdr(h:Option Addr×Nat)(l:List Int):Value:=.slice h.1 l.length h.2
def hdrs(hs:List (Option Addr×Nat))(ls:List (List Int)):List Value:=List.zipWith hdr hs ls
structure OwnMat(w:World)(base:Nat)(e:TypeId)(hs:List (Option Addr×Nat))(ls:List (List Int)):Prop where
 len:hs.length=ls.length
 own:∀(k:Nat) h l,hs[k]? =some h→ls[k]? =some l→w.ownsRow base e 1 (hdr h l) l.length (ints l)
 apart:∀(i j:Nat) h h' g,hs[i]? =some h→hs[j]? =some h'→(h.1.map (·.block))=some g→(h'.1.map (·.block))=some g→i=j
section
variable {w w':World} {base:Nat} {e:TypeId} {hs:List (Option Addr×Nat)} {ls:List (List Int)}
theorem hdr_block(h:Option Addr×Nat)(l:List Int):(hdr h l).ownBlock=h.1.map (·.block):=by
 obtain⟨A,c⟩:=h;cases A<;>rfl
theorem OwnMat.made(w:World)(base:Nat)(e:TypeId)(n:Nat):OwnMat w base e (List.replicate n (none,0)) (List.replicate n []):=by
 refine⟨by simp,fun k h l h1 h2=>?_,fun i j h h' g h1 h2 h3 _=>?_⟩
 ·rw[List.getElem?_replicate]at h1 h2;split at h1
  ·cases h1;rw[if_pos (by assumption)]at h2;cases h2;exact World.ownsRow_nil _ _ _ _
  ·cases h1
 ·rw[List.getElem?_replicate]at h1;split at h1
  ·cases h1;cases h3
  ·cases h1
theorem OwnMat.lower(M:OwnMat w base e hs ls){b':Nat}(hb:b'≤base):OwnMat w b' e hs ls:=⟨M.len,fun k h l h1 h2=>own_base (M.own k h l h1 h2) hb,M.apart⟩
theorem hdrs_made(n:Nat):hdrs (List.replicate n (none,0)) (List.replicate n [])=List.replicate n (.slice none 0 0):=by
 unfold hdrs;induction n with
 |zero=>rfl
 |succ n ih=>simp[List.replicate_succ,ih]
theorem hdrs_len(h:hs.length=ls.length):(hdrs hs ls).length=ls.length:=by simp[hdrs,h]
theorem hdrs_at{k:Nat}{h:Option Addr×Nat}{l:List Int}(h1:hs[k]? =some h)(h2:ls[k]? =some l):(hdrs hs ls)[k]? =some (hdr h l):=by
 unfold hdrs;rw[List.getElem?_zipWith,h1,h2]
theorem hdrs_set{k:Nat}(h:Option Addr×Nat)(l:List Int):(hdrs hs ls).set k (hdr h l)=hdrs (hs.set k h) (ls.set k l):=by
 unfold hdrs;apply List.ext_getElem?;intro i;rw[List.getElem?_zipWith]
 by_cases e:k=i
 ·subst e;rw[List.getElem?_set_self',List.getElem?_set_self',List.getElem?_set_self',List.getElem?_zipWith];cases hs[k]? <;>cases ls[k]? <;>rfl
 ·rw[List.getElem?_set_ne e,List.getElem?_set_ne e,List.getElem?_set_ne e,List.getElem?_zipWith]
theorem OwnMat.get(M:OwnMat w base e hs ls){k:Nat}(hk:k<ls.length):∃A c,hs[k]? =some (A,c)∧ls[k]? =some (ls.getD k [])∧w.ownsRow base e 1 (.slice A (ls.getD k []).length c) (ls.getD k []).length (ints (ls.getD k [])):=by
 have h1:hs[k]? =some (hs[k]'(by rw[M.len];exact hk)):=List.getElem?_eq_getElem _;have h2:ls[k]? =some (ls.getD k []):=by simp[hk]
 exact⟨_,_,h1,h2,M.own k _ _ h1 h2⟩
theorem OwnMat.kept{row:Option Nat}(M:OwnMat w base e hs ls)(hg:w.grownBy w' row)(hne:∀(k:Nat) h g,hs[k]? =some h→h.1.map (·.block)=some g→row≠some g):OwnMat w' base e hs ls:=
 ⟨M.len,fun k h l h1 h2=>(M.own k h l h1 h2).kept hg (by
  rw[hdr_block];cases hb:h.1.map (·.block)with
  |none=>exact .inl rfl
  |some g=>exact .inr fun e=>hne k h g h1 hb e.symm),M.apart⟩
theorem OwnMat.alloc(M:OwnMat w base e hs ls)(o:Obj):OwnMat (w.alloc o) base e hs ls:=M.kept (World.grownBy_alloc w o none) (fun _ _ _ _ _=>by simp)
theorem OwnMat.block(M:OwnMat w base e hs ls){k:Nat}{h:Option Addr×Nat}{g:Nat}(h1:hs[k]? =some h)(h2:h.1.map (·.block)=some g):base≤g∧g<w.heap.size:=by
 have hk:k<ls.length:=by rw[←M.len];exact(List.getElem?_eq_some_iff.1 h1).1
 have:=M.own k h (ls[k]) h1 (List.getElem?_eq_getElem hk);exact this.lt g (by rw[hdr_block];exact h2)
theorem OwnMat.below{B:Nat}(M:OwnMat w base e hs ls)(hb:Below B w w')(hB:w.heap.size≤B):OwnMat w' base e hs ls:=M.kept (uI hb hB none) (fun _ _ _ _ _=>by simp)
theorem OwnMat.far(M:OwnMat w base e hs ls){row:Nat}(hg:w.grownBy w' (some row))(hr:row<base):OwnMat w' base e hs ls:=M.kept hg fun k h g h1 h2 e=>by
 have:=(M.block h1 h2).1;cases e;omega
theorem OwnMat.grow(M:OwnMat w base e hs ls){k:Nat}{A A':Option Addr}{c c':Nat}{l l':List Int}(hk:hs[k]? =some (A,c))(hkl:k<ls.length)(hown:w'.ownsRow base e 1 (hdr (A',c') l') l'.length (ints l'))
 (hg:w.grownBy w' (hdr (A,c) l).ownBlock)(hat:(hdr (A',c') l').ownBlock=(hdr (A,c) l).ownBlock∨(hdr (A',c') l').ownBlock=some w.heap.size):OwnMat w' base e (hs.set k (A',c')) (ls.set k l'):=by
 have hkh:k<hs.length:=by rw[M.len];exact hkl
 rw[hdr_block]at hg;rw[hdr_block,hdr_block]at hat;refine⟨by simp[M.len],fun i h y h1 h2=>?_,fun i j h h' g h1 h2 h3 h4=>?_⟩
 ·by_cases e:k=i
  ·subst e;rw[List.getElem?_set_self hkh]at h1;rw[List.getElem?_set_self hkl]at h2;cases h1;cases h2;exact hown
  ·rw[List.getElem?_set_ne e]at h1 h2;refine(M.own i h y h1 h2).kept hg ?_;rw[hdr_block];cases hb:h.1.map (·.block)with
   |none=>exact .inl rfl
   |some g=>exact .inr fun e'=>e (M.apart i k h (A,c) g h1 hk hb e'.symm).symm
 ·have key:∀(q:Nat) (hq:Option Addr×Nat),k≠q→hs[q]? =some hq→hq.1.map (·.block)=some g→A'.map (·.block)=some g→False:=fun q hq hne e1 e2 e3=>by
   rcases hat with hat|hat
   ·rw[e3]at hat;exact hne (M.apart k q (A,c) hq g hk e1 hat.symm e2)
   ·rw[e3]at hat;cases hat;have:=(M.block e1 e2).2;omega
  by_cases ei:k=i
  ·by_cases ej:k=j
   ·omega
   ·subst ei;rw[List.getElem?_set_self hkh]at h1;rw[List.getElem?_set_ne ej]at h2;cases h1;exact(key j h' ej h2 h4 h3).elim
  ·by_cases ej:k=j
   ·subst ej;rw[List.getElem?_set_self hkh]at h2;rw[List.getElem?_set_ne ei]at h1;cases h2;exact(key i h ei h1 h3 h4).elim
   ·rw[List.getElem?_set_ne ei]at h1;rw[List.getElem?_set_ne ej]at h2;exact M.apart i j h h' g h1 h2 h3 h4
theorem OwnMat.grown(M:OwnMat w base e hs ls){k n m:Nat}{A A':Option Addr}{c c':Nat}{l':List Int}{xs:List Value}(hk:hs[k]? =some (A,c))(hkl:k<ls.length)(hown:w'.ownsRow base e 1 (.slice A' n c') n xs)(hn:n=l'.length)(hx:xs=ints l')
 (hg:w.grownBy w' (Value.slice A m c).ownBlock)(hat:(Value.slice A' n c').ownBlock=(Value.slice A m c).ownBlock∨(Value.slice A' n c').ownBlock=some w.heap.size):OwnMat w' base e (hs.set k (A',c')) (ls.set k l'):=by
 subst hn hx;have e1:(Value.slice A m c).ownBlock=(hdr (A,c) l').ownBlock:=by cases A<;>rfl
 rw[e1]at hg hat;exact M.grow hk hkl hown hg hat
theorem OwnMat.rd{G:Nat}{t:TypeId}(M:OwnMat w base e hs ls)(hG:Blk w G t ⟨hdrs hs ls⟩){S:Nat→Prop}(hSG:S G)(hS:∀b,base≤b→b<w.heap.size→S b):RdL rowShape w S (some ⟨G,0,none⟩) ls:=by
 refine⟨hs,M.len,?_,fun k l h h1 h2=>?_⟩
 ·have e:rowShape.cells ls hs=hdrs hs ls:=by
   unfold Shape.cells hdrs rowShape;simp only;have hl:=M.len;clear M hG;induction ls generalizing hs with
   |nil=>simp
   |cons l ls ih=>
    cases hs with
    |nil=>simp at hl
    |cons h hs=>
     simp only[List.zip_cons_cons,List.flatMap_cons,List.zipWith_cons_cons,List.cons_append,List.nil_append];rw[ih (by simpa using hl)]
  rw[e];exact⟨by rw[hdrs_len M.len];exact(Nat.mul_one _).symm,fun _=>⟨G,0,rfl,hSG,fun j u hu=>by rw[Nat.zero_add,hG.cell];simpa using hu⟩⟩
 ·have ho:=M.own k h l h2 h1;obtain⟨A,c⟩:=h;refine⟨by simp[ints],fun hn=>?_⟩;rcases ho.2 with⟨hv,hn0⟩|⟨g,cap,cur,hv,hb,hh,_⟩
  ·omega
  ·cases hv;refine⟨g,0,rfl,hS g hb (Array.getElem?_eq_some_iff.1 hh).1,fun j u hu=>?_⟩;have:=ho.cells (g:=g) rfl j u hu;have e1:(⟨g,0,none⟩:Addr).add j=⟨g,0+j,none⟩:=by
    unfold Addr.add
    by_cases hj:j=0<;>simp[hj]
   rwa [e1]at this
end
def ClonePost(w:World)(T:TypeId)(size n:Nat)(xs:List Value)(e:Ending)(w':World):Prop:=∃A c,e=.returned (.slice A n c)∧w'.ownsRow w.heap.size T size (.slice A n c) n xs∧Below w.heap.size w w'
theorem info_cls:(Tryz.prog.info? 64).map (fun i=>(i.zero,i.size,i.bytes))=some (some (.agg #[.string ⟨#[]⟩]),1,16):=by kernel_rfl
theorem clone_cls(A:Option Addr)(n c:Nat)(xs:List Value)(w:World)(h:Rd w w.heap.size 1 A n xs)(h0:A=none→n=0)(hn:n≤1000000)(h1:∀u∈xs,u.oneCell'=true):
 Calls Tryz.prog 35 #[.slice A n c] w (ClonePost w 64 1 n xs):=by
 have q:∀(w:World) (a:Option Addr) (n c n' c':Nat),(binOp .eql 29 (.slice a n c) (.slice none n' c')).run Tryz.prog w=.ok (.bool a.isNone) w:=fun w a n c n' c'=>Lib.run_eql_slice_nil w _ _ a n c n' c' Tryz.underlying29
 cases A with
 |none=>
  obtain rfl:=h0 rfl;have hx:xs=[]:=List.eq_nil_of_length_eq_zero (by simpa using h.1);go_enter Tryz.func35,Tryz.ntmps35;go_wp2;go_ret;subst hx;exact⟨none,0,rfl,World.ownsRow_nil _ _ _ _,Below.refl _ _⟩
 |some a=>
  obtain⟨i0,hi,hz0,hz1,hz2⟩:=info_parts info_cls;have hsp:0<n→a.spot=none:=fun hn0=>by
   obtain⟨b,off,e,_⟩:=h.2 hn0;cases e;rfl
  have hc:∀j u,xs[j]? =some u→w.cell? (a.add j)=some u:=fun j u hu=>by
   by_cases hn0:0<n
   ·obtain⟨b,off,e,_,hcc⟩:=h.2 hn0;cases e;have:=hcc j u hu
    rwa [show(⟨b,off,none⟩:Addr).add j=⟨b,off+j,none⟩from Go.WideShapes.add_plain b off j]
   ·have :xs.length=0:=by have:=h.1;omega
    have:=(List.getElem?_eq_some_iff.1 hu).1;omega
  have Hc:=eh hc;have Hl:=eh h.1;have H1:=eh h1;clear hc h h1 hsp h0;go_enter Tryz.func35,Tryz.ntmps35;go_wp2_with (at_builtin
                                                                                                                    refine wpList_append_own_at _ rfl _ _ 29 rfl w.heap.size 64 i0 _ 1 16 Tryz.underlying29 hi hz0 hz1 hz2 rfl (by decide) _ 0 [] rfl (World.ownsRow_made w #[] 0 (Nat.le_refl _) (Nat.zero_le _) rfl) a n c xs rfl Hl.out (fun j u hu=>by first|exact Hc.out j u hu|(rw[World.cell?_alloc_lt];exact Hc.out j u hu;exact World.block_lt_of_cell? w _ (Hc.out j u hu))) H1.out (by unfold maxLen;omega) (by omega) (by simp) ?_;intro v' w1 hown hg _ _;simp only[Nat.zero_add,List.nil_append]at hown;obtain⟨A',c',rfl⟩:=own_slice hown)
  go_ret;exact⟨A',c',rfl,hown,((Below.refl w.heap.size w).alloc (Nat.le_refl _) _).grown hg (by simp) (fun k hk=>by
   have e:some w.heap.size=some k:=hk;cases e;exact Nat.le_refl _)⟩
theorem info_ins:(Tryz.prog.info? 24).map (fun i=>(i.zero,i.size,i.bytes))=some (some (.agg #[.int .i64 0,.int .i64 0,.int .i64 0,.int .i64 0]),4,32):=by kernel_rfl
theorem clone_ins(A:Option Addr)(n c:Nat)(xs:List Value)(w:World)(h:Rd w w.heap.size 4 A n xs)(h0:A=none→n=0)(hn:n≤1000000)(h1:∀u∈xs,u.oneCell'=true):
 Calls Tryz.prog 36 #[.slice A n c] w (ClonePost w 24 4 n xs):=by
 have q:∀(w:World) (a:Option Addr) (n c n' c':Nat),(binOp .eql 25 (.slice a n c) (.slice none n' c')).run Tryz.prog w=.ok (.bool a.isNone) w:=fun w a n c n' c'=>Lib.run_eql_slice_nil w _ _ a n c n' c' Tryz.underlying25
 cases A with
 |none=>
  obtain rfl:=h0 rfl;have hx:xs=[]:=List.eq_nil_of_length_eq_zero (by simpa using h.1);go_enter Tryz.func36,Tryz.ntmps36;go_wp2;go_ret;subst hx;exact⟨none,0,rfl,World.ownsRow_nil _ _ _ _,Below.refl _ _⟩
 |some a=>
  obtain⟨i0,hi,hz0,hz1,hz2⟩:=info_parts info_ins;have hsp:0<n→a.spot=none:=fun hn0=>by
   obtain⟨b,off,e,_⟩:=h.2 hn0;cases e;rfl
  have hc:∀j u,xs[j]? =some u→w.cell? (a.add j)=some u:=fun j u hu=>by
   by_cases hn0:0<n
   ·obtain⟨b,off,e,_,hcc⟩:=h.2 hn0;cases e;have:=hcc j u hu
    rwa [show(⟨b,off,none⟩:Addr).add j=⟨b,off+j,none⟩from Go.WideShapes.add_plain b off j]
   ·have :xs.length=0:=by have:=h.1;omega
    have:=(List.getElem?_eq_some_iff.1 hu).1;omega
  have Hc:=eh hc;have Hl:=eh h.1;have H1:=eh h1;clear hc h h1 hsp h0;go_enter Tryz.func36,Tryz.ntmps36;go_wp2_with (at_builtin
                                                                                                                    refine wpList_append_own_at _ rfl _ _ 25 rfl w.heap.size 24 i0 _ 4 32 Tryz.underlying25 hi hz0 hz1 hz2 rfl (by decide) _ 0 [] rfl (World.ownsRow_made w #[] 0 (Nat.le_refl _) (Nat.zero_le _) rfl) a n c xs rfl Hl.out (fun j u hu=>by first|exact Hc.out j u hu|(rw[World.cell?_alloc_lt];exact Hc.out j u hu;exact World.block_lt_of_cell? w _ (Hc.out j u hu))) H1.out (by unfold maxLen;omega) (by omega) (by simp) ?_;intro v' w1 hown hg _ _;simp only[Nat.zero_add,List.nil_append]at hown;obtain⟨A',c',rfl⟩:=own_slice hown)
  go_ret;exact⟨A',c',rfl,hown,((Below.refl w.heap.size w).alloc (Nat.le_refl _) _).grown hg (by simp) (fun k hk=>by
   have e:some w.heap.size=some k:=hk;cases e;exact Nat.le_refl _)⟩
def mthShape:Shape Mth where
 size:=4
 H:=Option Addr×Nat
 cell m h:=mcell (m,h)
 len _ _:=rfl
 inner S w m h:=RdS w S 4 h.1 m.code.length (icells m.code)
 keep h hk:=h.keep hk
 more h hs:=h.more hs
structure RdPS(w:World)(S:Nat→Prop)(Ac Am:Option Addr)(p:Prg):Prop where
 cl:RdS w S 1 Ac p.classes.length (p.classes.map Value.string)
 ms:RdL mthShape w S Am p.methods
theorem RdPS.rd{w:World}{S:Nat→Prop}{B:Nat}{Ac Am:Option Addr}{p:Prg}(h:RdPS w S Ac Am p)(hs:∀b,S b→b<B):RdP w B Ac Am p:=by
 refine⟨h.cl.rd hs,?_⟩;obtain⟨hl,h1,h2,h3⟩:=h.ms;exact⟨hl,h1,h2.rd hs,fun k m x e1 e2=>(h3 k m x e1 e2).rd hs⟩
theorem RdPS.keep{w w':World}{S:Nat→Prop}{Ac Am:Option Addr}{p:Prg}(h:RdPS w S Ac Am p)(hk:Kept S w w'):RdPS w' S Ac Am p:=⟨h.cl.keep hk,h.ms.keep hk⟩
theorem RdPS.more{w:World}{S S':Nat→Prop}{Ac Am:Option Addr}{p:Prg}(h:RdPS w S Ac Am p)(hs:∀b,S b→S' b):RdPS w S' Ac Am p:=⟨h.cl.more hs,h.ms.more hs⟩
def CopyPost(w:World)(p:Prg)(e:Ending)(w':World):Prop:=∃Ac cc Am cm,e=.returned (pv Ac cc Am cm p)∧RdPS w' (fun b=>w.heap.size≤b∧b<w'.heap.size) Ac Am p∧Below w.heap.size w w'
theorem rds_own{w:World}{base:Nat}{e:TypeId}{size n c:Nat}{A:Option Addr}{xs:List Value}(h:w.ownsRow base e size (.slice A n c) n xs){S:Nat→Prop}(hS:∀g,A=some ⟨g,0,none⟩→base≤g→g<w.heap.size→S g):RdS w S size A n xs:=by
 refine⟨h.1,fun hn=>?_⟩;rcases h.2 with⟨hv,hn0⟩|⟨g,cap,cur,hv,hb,hh,_⟩
 ·omega
 ·cases hv;refine⟨g,0,rfl,hS g rfl hb (Array.getElem?_eq_some_iff.1 hh).1,fun j u hu=>?_⟩;have:=h.cells (g:=g) rfl j u hu
  rwa [Go.WideShapes.add_plain]at this
theorem rd_none{w:World}{B size n:Nat}{A:Option Addr}{xs:List Value}(h:Rd w B size A n xs):A=none→n=0:=fun e=>by
 by_cases hn:0<n
 ·obtain⟨b,off,e',_⟩:=h.2 hn;rw[e]at e';cases e'
 ·omega
structure CpR(wr:World)(base:Nat)(ms:List Mth)(k:Nat)(A:Option Addr)(c:Nat):Prop where
 ex:∃hs:List (Option Addr×Nat),hs.length=k∧wr.ownsRow base 27 4 (.slice A k c) k (mthShape.cells (ms.take k) hs)∧
  ∀(j:Nat) m h,(ms.take k)[j]? =some m→hs[j]? =some h→RdS wr (fun b=>base≤b∧b<wr.heap.size∧(Value.slice A k c).ownBlock≠some b) 4 h.1 m.code.length (icells m.code)
theorem kept_grown{w w':World}{row:Option Nat}(h:w.grownBy w' row){S:Nat→Prop}(hS:∀b,S b→b<w.heap.size∧some b≠row:=by intro b h;exact⟨h,by simp⟩):Kept S w w':=fun p hp=>World.cell?_of_block (h.block p.block (hS _ hp).1 (hS _ hp).2)
theorem cells_snoc{α:Type}(s:Shape α){l:List α}{hs:List s.H}(h:hs.length=l.length)(a:α)(x:s.H):s.cells (l++[a]) (hs++[x])=s.cells l hs++s.cell a x:=by
 unfold Shape.cells;rw[List.zip_append h.symm];simp
theorem infoMth:(Tryz.prog.info? 27).map (fun i=>(i.zero,i.size,i.bytes))=some (some (.agg #[.string ⟨#[]⟩,.string ⟨#[]⟩,.string ⟨#[]⟩,.slice none 0 0]),4,72):=by kernel_rfl
theorem copied_any(Ac Am:Option Addr)(cc cm:Nat)(p:Prg)(w:World)(hr:RdP w w.heap.size Ac Am p)(hc:p.classes.length≤1000)(hm:p.methods.length≤1000)(hcode:∀k,k<p.methods.length→(p.methods.getD k default).code.length≤1000):
 Calls Tryz.prog 17 #[pv Ac cc Am cm p] w (CopyPost w p):=by
 have hcl:=fun W (hW:Below w.heap.size w W)=>clone_cls Ac p.classes.length cc (p.classes.map Value.string) W ((hr.cl.below hW (Nat.le_refl _)).more hW.size) (rd_none hr.cl) (by omega) (by intro u hu;obtain⟨x,_,rfl⟩:=List.mem_map.1 hu;rfl)
 have Hcl:=eh hcl;have hw2:=((Below.refl w.heap.size w).alloc (Nat.le_refl _) (.cells #[.slice Ac p.classes.length cc,.slice Am p.methods.length cm] 31)).alloc (by simp) (.cells #[.slice none 0 0,.slice none 0 0] 31);have b1:=(Blk.new w 31 #[.slice Ac p.classes.length cc,.slice Am p.methods.length cm]).alloc (.cells #[.slice none 0 0,.slice none 0 0] 31);have b2:=Blk.newAt (w:=w.alloc (.cells #[.slice Ac p.classes.length cc,.slice Am p.methods.length cm] 31)) (g:=w.heap.size+1) (by simp) 31 #[.slice none 0 0,.slice none 0 0];clear hcl;go_enter Tryz.func17,Tryz.ntmps17;go_wp2_with fail;refine(Hcl.out _ hw2).mono ?_;rintro e w1 ⟨A1,c1,rfl,own1,hb1⟩;have hw1:=hw2.trans (hb1.mono hw2.size);have d1:=b1.below hb1 b1.lt;have d2:=b2.below hb1 b2.lt;have y1:=d1.at1;have l1:=d1.lt;have e1:=d1;go_wp2;have d3:=Blk.new w1 31 #[.slice A1 p.classes.length c1,.slice none 0 0];have d1':=d1.alloc (.cells #[.slice A1 p.classes.length c1,.slice none 0 0] 31);have d2':=d2.alloc (.cells #[.slice A1 p.classes.length c1,.slice none 0 0] 31);have hw3:=hw1.alloc hw1.size (.cells #[.slice A1 p.classes.length c1,.slice none 0 0] 31);have hz1:w.heap.size+2≤w1.heap.size:=by have:=hb1.size;simp at this;omega
 have own1':=own1.alloc (.cells #[.slice A1 p.classes.length c1,.slice none 0 0] 31);have hlt1:=fun g (e:A1=some ⟨g,0,none⟩)=>own1.lt g (by rw[e];rfl)
 have Hlt1:=eh hlt1;have HA1:=eh (rds_own own1 (S:=fun b=>w.heap.size+2≤b∧b<w1.heap.size) (fun g e h1 h2=>⟨by have:=own1.lt g (by rw[e];rfl);simp at this;omega,h2⟩));clear own1 own1' d1 d2 b1 b2 hb1 hw2 hw1 y1 l1 hlt1 e1;have r0:CpR (w1.alloc (.cells #[.slice A1 p.classes.length c1,.slice none 0 0] 31)) (w1.heap.size+1) p.methods 0 none 0:=⟨[],rfl,World.ownsRow_nil _ _ _ _,fun j m h e=>by simp at e⟩;have K0:Kept (fun b=>b<w1.heap.size) w1 (w1.alloc (.cells #[.slice A1 p.classes.length c1,.slice none 0 0] 31)):=(Kept.refl _ _).alloc (fun b h=>h) _;generalize w1.alloc (.cells #[.slice A1 p.classes.length c1,.slice none 0 0] 31)=w3 at*;have Hm:=eh hr.ms;have Hcode:=eh hcode;go_loopw [13] (fun iv wr=>∃(k:Nat) (A:Option Addr) (c:Nat),k≤p.methods.length∧iv=.int .i64 k∧CpR wr (w1.heap.size+1) p.methods k A c∧Blk wr w1.heap.size 31 #[.slice A1 p.classes.length c1,.slice A k c]∧Hid (Kept (fun b=>b<w1.heap.size) w1 wr)∧Blk wr (w.heap.size+1) 31 #[.slice none 0 0,.slice none 0 0]∧w1.heap.size<wr.heap.size∧Below w.heap.size w wr) (fun iv _=>p.methods.length-(intOf iv).toNat)
 case atStart=>exact⟨0,none,0,Nat.zero_le _,rfl,r0,d3,eh K0,d2',d3.lt,hw3⟩
 case round=>
  clear r0 d3 K0 d2' hw3 d1';obtain⟨k,A,c,hk,rfl,R,d3,K,d2,hz,hb⟩:=hrel
  by_cases hlt:k<p.methods.length
  ·obtain⟨b,off,Ai,ci,hA,hbb,m0,m1,m2,m3,hcd⟩:=mth_at (Hm.out.below hb (Nat.le_refl _)) hlt;have hcl:=Hcode.out k hlt;have Hget:=eh (show(p.methods.take (k+1))=p.methods.take k++[p.methods.getD k default] by rw[List.take_succ_eq_append_getElem hlt];simp[hlt]);generalize p.methods.getD k default=mm at*;subst hA;have k0:(0:Int)≤k:=by omega
   have k1:(k:Int)<p.methods.length:=by omega
   have hcd':=hcd;obtain⟨hs,hl,own,inn⟩:=R.ex;have olt:=own.lt;have Olt:=eh olt;have Inn:=eh inn;have Hl:=eh hl;clear R inn olt hl;have Hone:=eh (show∀u∈icells mm.code,u.oneCell'=true from fun u hu=>by
    obtain⟨x,_,hx⟩:=List.mem_flatMap.1 hu;simp[icell]at hx;rcases hx with rfl|rfl|rfl|rfl<;>rfl)
   go_upto_region 5 with(fail);have b5:=Blk.new wr 27 #[.string mm.pa,.string mm.lo,.string mm.re,.slice Ai mm.code.length ci];have hcd4:=(hcd.alloc (by have:=hb.size;omega) (.cells #[.string mm.pa,.string mm.lo,.string mm.re,.slice Ai mm.code.length ci] 27)).more (B':=(wr.alloc (.cells #[.string mm.pa,.string mm.lo,.string mm.re,.slice Ai mm.code.length ci] 27)).heap.size) (by have:=hb.size;simp;omega);have Hzz:=eh (show(wr.alloc (.cells #[.string mm.pa,.string mm.lo,.string mm.re,.slice Ai mm.code.length ci] 27)).heap.size=wr.heap.size+1 by simp);have hg4:=World.grownBy_alloc wr (.cells #[.string mm.pa,.string mm.lo,.string mm.re,.slice Ai mm.code.length ci] 27) none;have own4:=own.alloc (.cells #[.string mm.pa,.string mm.lo,.string mm.re,.slice Ai mm.code.length ci] 27);have d34:=d3.alloc (.cells #[.string mm.pa,.string mm.lo,.string mm.re,.slice Ai mm.code.length ci] 27);have d24:=d2.alloc (.cells #[.string mm.pa,.string mm.lo,.string mm.re,.slice Ai mm.code.length ci] 27);have hb4:=hb.alloc hb.size (.cells #[.string mm.pa,.string mm.lo,.string mm.re,.slice Ai mm.code.length ci] 27);clear m0 m1 m2 m3 hcd hcd';generalize wr.alloc (.cells #[.string mm.pa,.string mm.lo,.string mm.re,.slice Ai mm.code.length ci] 27)=w4 at*;have y3:=b5.at3;have l5:=b5.lt;go_wp2_with fail;refine(clone_ins Ai mm.code.length ci (icells mm.code) w4 hcd4 (rd_none hcd4) (by omega) Hone.out).mono ?_;rintro e w5 ⟨A2,c2,rfl,own2,hb5⟩;have b6:=b5.below hb5 b5.lt;have y3':=b6.at3;have f3:=b6.frozen 3;have l6:=b6.lt;clear y3 l5 b5 hcd4;go_upto_region 6 with(fail);have b7:Blk (w5.setCell ⟨wr.heap.size,3,none⟩ (.slice A2 mm.code.length c2)) wr.heap.size 27 #[.string mm.pa,.string mm.lo,.string mm.re,.slice A2 mm.code.length c2]:=by simpa using b6.set_ 3 (.slice A2 mm.code.length c2)
   have hgs:=uA w5 ⟨wr.heap.size,3,none⟩ (.slice A2 mm.code.length c2);have hz5:=hb5.size;have hzz:=Hzz.out;have own5:=own_below own4 hb5 (Nat.le_refl _);have own6:=uS own5 hgs (.inl (fun e=>by have:=(Olt.out wr.heap.size e).2;omega));have own26:=uS own2 hgs (.inl (fun e=>by have:=(own2.lt wr.heap.size e).1;omega));have d36:=(d34.below hb5 d34.lt).far (p:=⟨wr.heap.size,3,none⟩) (by show w1.heap.size≠wr.heap.size;omega) (.slice A2 mm.code.length c2);have d26:=(d24.below hb5 d24.lt).far (p:=⟨wr.heap.size,3,none⟩) (by show w.heap.size+1≠wr.heap.size;omega) (.slice A2 mm.code.length c2);have hb6:=(hb4.trans (hb5.mono hb4.size)).setCell (p:=⟨wr.heap.size,3,none⟩) (by show w.heap.size≤wr.heap.size;omega) (.slice A2 mm.code.length c2);have K6:Kept (fun b=>b<wr.heap.size) wr (w5.setCell ⟨wr.heap.size,3,none⟩ (.slice A2 mm.code.length c2)):=Kept.set (Kept.grown (kept_grown hg4) (uI hb5 (Nat.le_refl _) none) (fun b h=>by omega) (fun b h=>by simp)) (by show¬wr.heap.size<wr.heap.size;omega) _;have hz6:wr.heap.size+1≤(w5.setCell ⟨wr.heap.size,3,none⟩ (.slice A2 mm.code.length c2)).heap.size:=by simp;omega
   have Hz6:=eh (show(w5.setCell ⟨wr.heap.size,3,none⟩ (.slice A2 mm.code.length c2)).heap.size=w5.heap.size by simp);have Olt2:=eh own2.lt;have hz56:wr.heap.size+1≤w5.heap.size:=by omega
   clear hzz;clear y3' f3 l6 b6 own4 own5 own2 d34 d24 hb4 hgs own d3 d2 hg4;go_upto_region 6 with(fail);generalize w5.setCell ⟨wr.heap.size,3,none⟩ (.slice A2 mm.code.length c2)=w6 at*;have q0:=b7.at0;have q1:=b7.at1;have q2:=b7.at2;have q3:=b7.at3;have l7:=b7.lt;have x1:=d36.at1;have lx:=d36.lt;go_wp2_with (at_builtin
                                                                                                                                                                                                                                                                                                                       refine wpList_append_row rfl (.tmp 22) (.tmp 24) 28 rfl (w1.heap.size+1) 27 _ 4 72 Tryz.underlying28 infoMth rfl (by omega) A c k (mthShape.cells (p.methods.take k) hs) rfl (own6.alloc _) w6.heap.size 1 1 27 [.string mm.pa,.string mm.lo,.string mm.re,.slice A2 mm.code.length c2] rfl (Blk.new _ _ _) rfl (by intro u hu;simp at hu;rcases hu with rfl|rfl|rfl|rfl<;>rfl) (by unfold maxLen;omega) (by omega) (by simp;omega) ?_;intro A3 c3 w7 own7 hg7 hat7;have d37:=(d36.alloc (.cells #[.string mm.pa,.string mm.lo,.string mm.re,.slice A2 mm.code.length c2] 27)).grown hg7 (fun e=>by have:=(Olt.out w1.heap.size e.symm).1;omega);have x3:=d37.at1;have fx3:=d37.frozen 1;have lx3:=d37.lt)
   go_roundw
   case rel=>
    have hlk:(p.methods.take k).length=k:=by simp;omega
    have hgA:=World.grownBy_alloc w6 (.cells #[.string mm.pa,.string mm.lo,.string mm.re,.slice A2 mm.code.length c2] 27) (Value.slice A k c).ownBlock;have hg67:=hgA.trans hg7;have hgS:=uA w7 ⟨w1.heap.size,1,none⟩ (.slice A3 (k+1) c3);have hs67:=hg67.size;have hs8:(w7.setCell ⟨w1.heap.size,1,none⟩ (.slice A3 (k+1) c3)).heap.size=w7.heap.size:=by simp
    have hsA:(w6.alloc (.cells #[.string mm.pa,.string mm.lo,.string mm.re,.slice A2 mm.code.length c2] 27)).heap.size=w6.heap.size+1:=by simp
    have hs7:=hg7.size;have hOwn:∀b,(Value.slice A3 (k+1) c3).ownBlock=some b→b<wr.heap.size∨b=w6.heap.size+1:=fun b e=>by
     rcases hat7 with h|h
     ·exact .inl (Olt.out b (by rw[←h];exact e)).2
     ·rw[h]at e;right;rw[←hsA];exact(Option.some.inj e).symm
    have hKr:∀(S:Nat→Prop),(∀b,S b→w1.heap.size<b∧b<w6.heap.size∧(Value.slice A k c).ownBlock≠some b)→Kept S w6 (w7.setCell ⟨w1.heap.size,1,none⟩ (.slice A3 (k+1) c3)):=fun S hS=>
     Kept.set (Kept.grown (Kept.refl S w6) hg67 (fun b h=>(hS b h).2.1) (fun b h e=>(hS b h).2.2 e.symm)) (fun h=>by have:=(hS _ h).1;exact Nat.lt_irrefl _ this) _
    have hzz:=Hzz.out;have hz6e:=Hz6.out;refine⟨k+1,A3,c3,by omega,by go_num,⟨hs++[(A2,c2)],by simp[Hl.out],?_,?_⟩,?_,?_,?_,?_,?_⟩
    ·rw[Hget.out];have hcs:=cells_snoc mthShape (l:=p.methods.take k) (hs:=hs) (by rw[hlk];exact Hl.out) mm (A2,c2);exact(congrArg (fun xs=>World.ownsRow (w7.setCell ⟨w1.heap.size,1,none⟩ (.slice A3 (k+1) c3)) (w1.heap.size+1) 27 4 (.slice A3 (k+1) c3) (k+1) xs) hcs).mpr (uS own7 hgS (.inl (uF (Nat.lt_succ_self _) own7)))
    ·intro j m h e1 e2;rw[Hget.out]at e1
     by_cases hj:j<k
     ·rw[List.getElem?_append_left (by omega)]at e1;rw[List.getElem?_append_left (by rw[Hl.out];exact hj)]at e2;have r:=Inn.out j m h e1 e2;refine((r.keep (K6.sub (fun b hb=>hb.2.1))).keep (hKr _ (fun b hb=>⟨by omega,by omega,hb.2.2⟩))).more (fun b hb=>⟨hb.1,by omega,fun e=>?_⟩);rcases hat7 with h7|h7
      ·exact hb.2.2 (by rw[←h7];exact e)
      ·rw[h7]at e;have:=Option.some.inj e;omega
     ·have hjk:j=k:=by
       have:=(List.getElem?_eq_some_iff.1 e1).1;simp[hlk]at this;omega
      subst hjk;rw[List.getElem?_append_right (by omega),hlk]at e1;rw[List.getElem?_append_right (by rw[Hl.out];omega),Hl.out]at e2;simp at e1 e2;subst e1 e2;have r:=rds_own own26 (S:=fun b=>w4.heap.size≤b∧b<w6.heap.size) (fun g _ h1 h2=>⟨h1,h2⟩);refine(r.keep (hKr _ (fun b hb=>⟨by omega,hb.2,fun e=>by have:=(Olt.out b e).2;omega⟩))).more (fun b hb=>⟨by omega,by omega,fun e=>?_⟩);rcases hOwn b e with h|h<;>omega
    ·have:=d37.set_ 1 (.slice A3 (k+1) c3);simpa using this
    ·exact eh ((K.out.trans (K6.sub (fun b hb=>by omega))).trans (Kept.set (Kept.grown (Kept.refl _ w6) hg67 (fun b h=>by omega) (fun b h e=>by have:=(Olt.out b e.symm).1;omega)) (by show¬w1.heap.size<w1.heap.size;omega) _))
    ·exact((d26.alloc _).grown hg7 (fun e=>by have:=(Olt.out (w.heap.size+1) e.symm).1;omega)).far (by show w.heap.size+1≠w1.heap.size;omega) _
    ·omega
    ·exact(hb6.grown hg67 hb6.size (fun j hj=>by have:=(Olt.out j hj).1;omega)).setCell (by show w.heap.size≤w1.heap.size;omega) _
   case measure=>simp[intOf];omega
  ·have hke:k=p.methods.length:=by omega
   have hge:¬(k:Int)<p.methods.length:=by omega
   have x0:=d3.at0;have x1:=d3.at1;have z0:=d2.at0;have z1:=d2.at1;have fz0:=d2.frozen 0;have fz1:=d2.frozen 1;have lz:=d2.lt;have HK:=eh hke;clear hke hlt;go_wp2;have e2:Blk ((wr.setCell ⟨w.heap.size+1,0,none⟩ (.slice A1 p.classes.length c1)).setCell ⟨w.heap.size+1,1,none⟩ (.slice A k c)) (w.heap.size+1) 31 #[.slice A1 p.classes.length c1,.slice A k c]:=by simpa using(d2.set_ 0 (.slice A1 p.classes.length c1)).set_ 1 (.slice A k c)
   have q0:=e2.at0;have q1:=e2.at1;refine bodyPost_ret (v:=.agg #[.slice A1 p.classes.length c1,.slice A k c]) (by simp[results,Tryz.results17,go_sem,q0,q1]) rfl ?_;have hKz:∀(S:Nat→Prop),(∀b,S b→b≠w.heap.size+1)→Kept S wr ((wr.setCell ⟨w.heap.size+1,0,none⟩ (.slice A1 p.classes.length c1)).setCell ⟨w.heap.size+1,1,none⟩ (.slice A k c)):=fun S hS=>((Kept.refl S wr).set (fun h=>hS _ h rfl) _).set (fun h=>hS _ h rfl) _
   have hs8:((wr.setCell ⟨w.heap.size+1,0,none⟩ (.slice A1 p.classes.length c1)).setCell ⟨w.heap.size+1,1,none⟩ (.slice A k c)).heap.size=wr.heap.size:=by simp
   refine⟨A1,c1,A,c,by rw[HK.out],⟨?_,?_⟩,((hb.setCell (by show w.heap.size≤w.heap.size+1;omega) _).setCell (by show w.heap.size≤w.heap.size+1;omega) _)⟩
   ·exact((HA1.out.keep (K.out.sub (fun b h=>h.2))).keep (hKz _ (fun b h=>by omega))).more (fun b h=>⟨by omega,by omega⟩)
   ·obtain⟨hs,hl,own,inn⟩:=R.ex;have ht:p.methods.take k=p.methods:=by rw[HK.out,List.take_length]
    rw[ht]at own inn;refine⟨hs,hl.trans HK.out,?_,fun j m h e1 e2=>?_⟩
    ·rw[←HK.out];exact((rds_own own (S:=fun b=>w1.heap.size+1≤b∧b<wr.heap.size) (fun g _ h1 h2=>⟨h1,h2⟩)).keep (hKz _ (fun b h=>by omega))).more (fun b h=>⟨by omega,by omega⟩)
    ·exact((inn j m h e1 e2).keep (hKz _ (fun b h=>by omega))).more (fun b h=>⟨by omega,by omega⟩)
theorem bool_at{w:World}{B n:Nat}{A:Option Addr}{l:List Bool}(h:Rd w B 1 A n (l.map Value.bool)){k:Nat}(hk:k<n):∃b off,A=some ⟨b,off,none⟩∧b<B∧w.cell? ⟨b,off+k,none⟩=some (.bool (l.getD k false)):=by
 obtain⟨b,off,e,hb,hc⟩:=h.2 (by omega);have hl:l.length=n:=by have:=h.1;simpa using this
 exact⟨b,off,e,hb,hc k _ (by simp[show k<l.length by omega])⟩
def stkF(st:List ByteArray)(se:List Bool)(pc:Int):ByteArray×Bool:=if 0≤pc∧pc<se.length∧se.getD pc.toNat false=true then(st.getD pc.toNat ⟨#[]⟩,true)else(⟨#[]⟩,false)
abbrev vm(As Ae:Option Addr)(cs ce:Nat)(st:List ByteArray)(se:List Bool)(most:Nat):Value:=.agg #[.slice As st.length cs,.slice Ae se.length ce,.int .i64 most]
theorem ret_sb{a a':ByteArray}{b b':Bool}(h1:a=a')(h2:b=b'):Ending.returned (.tuple #[.string a,.bool b])=.returned (.tuple #[.string a',.bool b']):=by rw[h1,h2]
theorem vat_any(As Ae:Option Addr)(cs ce:Nat)(st:List ByteArray)(se:List Bool)(most:Nat)(pc:Int)(w:World)(h1:Rd w w.heap.size 1 As st.length (st.map Value.string))(h2:Rd w w.heap.size 1 Ae se.length (se.map Value.bool))(hl:st.length=se.length):
 Calls Tryz.prog 77 #[vm As Ae cs ce st se most,.int .i64 pc] w fun e w'=>e=.returned (.tuple #[.string (stkF st se pc).1,.bool (stkF st se pc).2])∧Below w.heap.size w w':=by
 have hb:=(Below.refl w.heap.size w).alloc (Nat.le_refl _) (.cells #[.slice As st.length cs,.slice Ae se.length ce,.int .i64 most] 100)
 by_cases p0:pc<0
 ·have HF:=eh (show stkF st se pc=(⟨#[]⟩,false) by unfold stkF;rw[if_neg (by omega)]);have g1:decide (pc<0)=true:=by simpa using p0
  clear p0 hl;go_enter Tryz.func77,Tryz.ntmps77;go_wp2;go_ret2;exact⟨ret_sb (by rw[HF.out]) (by rw[HF.out]),hb⟩
 ·have g1:decide (pc<0)=false:=by simpa using p0
  by_cases p1:(se.length:Int)≤pc
  ·have HF:=eh (show stkF st se pc=(⟨#[]⟩,false) by unfold stkF;rw[if_neg (by omega)]);clear p0 hl;go_enter Tryz.func77,Tryz.ntmps77;go_wp2;go_ret2;exact⟨ret_sb (by rw[HF.out]) (by rw[HF.out]),hb⟩
  ·obtain⟨k,rfl⟩:∃k:Nat,pc=k:=⟨pc.toNat,by omega⟩;have hk:k<se.length:=by omega
   have hF:stkF st se k=if se.getD k false=true then(st.getD k ⟨#[]⟩,true)else(⟨#[]⟩,false):=by
    unfold stkF
    by_cases h:se.getD k false=true
    ·rw[if_pos ⟨by omega,by omega,by simpa using h⟩,if_pos h];simp
    ·rw[if_neg (fun hh=>h (by simpa using hh.2.2)),if_neg h]
   obtain⟨b1,o1,rfl,hb1,x1⟩:=str_at h1 (show k<st.length by omega);obtain⟨b2,o2,rfl,hb2,x2⟩:=bool_at h2 hk;have k0:(0:Int)≤k:=by omega
   have k1:(k:Int)<se.length:=by omega
   have k2:(k:Int)<st.length:=by omega
   have HF:=eh hF;generalize se.getD k false=s at*;generalize st.getD k ⟨#[]⟩=t at*;clear hF p0 p1 hl hk;cases s with
   |false=>
    go_enter Tryz.func77,Tryz.ntmps77;go_wp2;go_ret2;exact⟨ret_sb (by rw[HF.out];rfl) (by rw[HF.out];rfl),hb⟩
   |true=>
    go_enter Tryz.func77,Tryz.ntmps77;go_wp2;go_ret2;exact⟨ret_sb (by rw[HF.out];rfl) (by rw[HF.out];rfl),hb⟩
theorem atomic_add(b off:Nat)(v:Int)(w:World)(h0:w.cell? ⟨b,off,none⟩=some (.int .i64 v))(f0:w.frozen? ⟨b,off,none⟩=false):
 Calls Tryz.prog 111 #[.pointer (some ⟨b,off,none⟩),.int .i64 1] w fun e w'=>e=.returned (.int .i64 (IntKind.i64.wrap (v+1)))∧w'=w.setCell ⟨b,off,none⟩ (.int .i64 (IntKind.i64.wrap (v+1))):=by
 obtain⟨r,hr⟩:∃r,r=IntKind.i64.wrap (v+1):=⟨_,rfl⟩;have hadd:=run_call_add (P:=Tryz.prog) Tryz.func147 (by kernel_rfl) (by kernel_rfl) (by kernel_rfl) .i64 (by kernel_rfl) (y:=1) (s:=r) h0 f0 (by subst hr;rfl);rw[←hr];clear hr;go_enter Tryz.func111,Tryz.ntmps111;go_wp2;go_ret;exact⟨rfl,rfl⟩
theorem wpList_append_zeros0{P:Program}{w:World}{ops:Array Oper}{rest:List Oper}{o:Oper}{a:Act}{Q:Exit→Act→World→Prop}(hw:Region.wanted o (yielded ops a.tmps)=true)(s x:Operand)(t tn:TypeId)
 (ho:o.op=.call {callee:=.builtin .append,args:=#[s,x],argTypes:=#[t,tn]})(e:TypeId)(i:TypeInfo)(z0:Value)(kq kn:IntKind)(ht:P.underlying t=some (.slice e))(htn:P.underlying tn=some (.int kn))(hi:P.info? e=some i)(hz:i.zero=some z0)
 (hzc:z0.cells=#[z0])(hs1:i.size=1)(hs:a.eval s=.slice none 0 0)(k:Nat)(hx:a.eval x=.int kq k)(hk:0<k)
 (h63:k≤maxLen)(hbytes:k*i.bytes≤140737488355328)
 (h:∀c' w',w'.ownsRow w.heap.size e 1 (.slice (some ⟨w.heap.size,0,none⟩) k c') k (List.replicate k z0)→Below w.heap.size w w'→k≤c'→wpList P ops Q rest (a.put o.dst (.slice (some ⟨w.heap.size,0,none⟩) k c')) w'):wpList P ops Q (o::rest) a w:=by
 refine wpList_on hw fun K hK=>?_
 have hsmall:k≤9223372036854775807:=by simp only[maxLen]at h63;omega
 have hfit:=growslice_fits (need:=0+k) (old:=0) (bytes:=i.bytes) (by omega) (by simpa using hbytes);have hfc:(Builtin.firstCells i.size 0 (.slice none 0 0)).run P w.drew=.ok ([]:List Value).toArray w.drew:=by simp[Builtin.firstCells,go_sem]
 have hr:=Lib.run_append_grow_zeros (P:=P) w t tn o.type e i z0 kq kn ht htn hi hz none 0 0 [] hfc k hk (by omega) (by omega) (by omega) (by omega) hfit;have hge:=grownCap_ge w (0+k) 0 e;have hcmx:grownCap w (0+k) 0 e≤maxLen:=grownCap_le_maxLen w (0+k) 0 e (by omega);have hge':k≤grownCap w (0+k) 0 e:=by omega
 unfold Oper.wp execOp;simp only[ho,resolve,invoke,builtin,Sem.run_bind,Sem.run_pure,Result.andThen_ok,List.map_toArray,List.map_cons,List.map_nil,hs,hx,hr,Nat.zero_add]at hge'⊢;rw[Nat.zero_add]at hcmx;refine hK _ _ (h _ _ ⟨by simp,.inr ⟨w.heap.size,_,_,rfl,Nat.le_refl _,heap_alloc_new w.drew _,hge',hcmx,?_,?_⟩⟩ ((Below.refl _ _).drew.alloc (Nat.le_refl _) _) hge')
 ·simp only[Array.size_append,List.size_toArray,size_zeroCells,hzc];simp;omega
 ·simp only[Array.toList_append,List.append_assoc,hzc,zeroCells_one];simp
def GrowPost(w:World)(e:Ending)(w':World):Prop:=∃A c,e=.returned (.slice A 0 c)∧w'.ownsRow w.heap.size 3 1 (.slice A 0 c) 0 []∧Below w.heap.size w w'
theorem grow_any(n:Nat)(hn:n≤10000000)(w:World):Calls Tryz.prog 112 #[.slice none 0 0,.int .i64 n] w (GrowPost w):=by
 have hPP:∀A c w',w'.ownsRow w.heap.size 3 1 (.slice A 0 c) 0 []→Below w.heap.size w w'→GrowPost w (.returned (.slice A 0 c)) w':=fun A c w' h1 h2=>⟨A,c,rfl,h1,h2⟩
 have HP:=eh hPP;clear hPP;generalize GrowPost w=Post at*;obtain⟨ii,hi1,hi2,hi3,hi4⟩:=info_parts infoIntR;have Hi1:=eh hi1;have Hi2:=eh hi2;have Hi3:=eh hi3;have Hi4:=eh hi4;clear hi1 hi2 hi3 hi4
 by_cases h0:n=0
 ·subst h0;go_enter Tryz.func112,Tryz.ntmps112;go_wp2;exact HP.out none 0 _ (World.ownsRow_nil _ _ _ _) (Below.refl _ _)
 ·have n0:(0:Int)<n:=by omega
  have n1:0<n:=by omega
  go_enter Tryz.func112,Tryz.ntmps112;go_upto_region 6 with(at_builtin
                                                            refine wpList_append_zeros0 rfl (.tmp 20) (.tmp 21) 38 3 rfl 3 ii _ .i64 .i64 Tryz.underlying38 Tryz.underlying3 Hi1.out Hi2.out rfl Hi3.out rfl n rfl n1 (by unfold maxLen;omega) (by rw[Hi4.out];omega) ?_;intro c2 w2 hown2 hb2 hc2)
  have hown3:=own_take hown2 (k:=0) (by omega) (fun h=>by cases h);rw[List.take_zero]at hown3;go_wp2;exact HP.out _ _ _ hown3 hb2
def ConcatPost(w:World)(l:List Int)(e:Ending)(w':World):Prop:=∃A c,e=.returned (.slice A l.length c)∧w'.ownsRow w.heap.size 3 1 (.slice A l.length c) l.length (ints l)∧Below w.heap.size w w'
theorem flat_take_step(ls:List (List Int)){k:Nat}(hk:k<ls.length):(ls.take (k+1)).flatten=(ls.take k).flatten++ls.getD k []:=by
 rw[List.take_add_one,List.flatten_append];simp[hk]
theorem flat_take_le(ls:List (List Int))(k:Nat):(ls.take k).flatten.length≤ls.flatten.length:=by
 have e:ls.flatten=(ls.take k).flatten++(ls.drop k).flatten:=by rw[←List.flatten_append,List.take_append_drop]
 rw[e,List.length_append];omega
theorem concat_any(A:Option Addr)(c:Nat)(ls:List (List Int))(w:World)(hr:RdL rowShape w (· <w.heap.size) A ls)(hn:ls.length≤1000)(ht:ls.flatten.length≤1000000):
 Calls Tryz.prog 78 #[.slice A ls.length c] w (ConcatPost w ls.flatten):=by
 have hPP:∀A' c' n w',n=ls.flatten.length→w'.ownsRow w.heap.size 3 1 (.slice A' n c') n (ints ls.flatten)→Below w.heap.size w w'→ConcatPost w ls.flatten (.returned (.slice A' n c')) w':=fun A' c' n w' h0 h1 h2=>by subst h0;exact⟨A',c',rfl,h1,h2⟩
 have HP:=eh hPP;clear hPP;generalize ConcatPost w ls.flatten=Post at*;obtain⟨ii,hi1,hi2,hi3,hi4⟩:=info_parts infoIntR;have Hi1:=eh hi1;have Hi2:=eh hi2;have Hi3:=eh hi3;have Hi4:=eh hi4;have Hle:=eh (fun k=>Nat.le_trans (flat_take_le ls k) ht);have Hst:=eh (fun k (hk:k<ls.length)=>flat_take_step ls hk);have Hr:=eh hr;clear hi1 hi2 hi3 hi4 hr;go_enter Tryz.func78,Tryz.ntmps78;go_wp2;go_loopw [11,3] (fun iv sv wr=>∃k:Nat,k≤ls.length∧iv=.int .i64 k∧sv=.int .i64 ((ls.take k).flatten.length:Nat)∧wr=w) (fun iv _ _=>ls.length-(intOf iv).toNat)
 case atStart=>exact⟨0,Nat.zero_le _,rfl,rfl,rfl⟩
 case round=>
  obtain⟨k,hk,rfl,rfl,rfl⟩:=hrel
  by_cases hlt:k<ls.length
  ·have k0:(0:Int)≤k:=by omega
   have k1:(k:Int)<ls.length:=by omega
   obtain⟨b,off,A1,c1,hA,hb,y,hrd⟩:=rd_row Hr.out hlt;subst hA;have hs1:=Hle.out (k+1);have hs2:=Hst.out k hlt;have hs3:=congrArg List.length hs2;rw[List.length_append]at hs3;have Hs3:=eh hs3;rw[hs3]at hs1;clear hs2 hs3 hrd;generalize(ls.take k).flatten.length=sz at*;generalize(ls.getD k []).length=m at*;have hw1:IntKind.i64.wrap ((sz:Int)+m)=(sz:Int)+m:=IntWalk.i64_in _ (by omega);have hnn:¬((sz:Int)+m<0):=by omega
   go_wp2;go_roundw
   case rel=>exact⟨k+1,by omega,by go_num,by rw[Hs3.out];simp,by trivial⟩
   case measure=>simp[intOf];omega
  ·have e:k=ls.length:=by omega
   have hge:¬(k:Int)<ls.length:=by omega
   have hfl:(ls.take k).flatten.length=ls.flatten.length:=by rw[e,List.take_length]
   rw[hfl];clear hlt hfl;generalize hfn:ls.flatten.length=fn at*;have Hfn:=eh hfn;clear hfn;generalize wr=w at*;go_wp2_with fail;refine(grow_any fn (by omega) _).mono ?_;rintro e w2 ⟨A2,c2,rfl,own2,hb2⟩;go_wp2;go_loopw [27,6] (fun iv rv wr=>∃(j:Nat) (A3:Option Addr) (c3:Nat),j≤ls.length∧iv=.int .i64 j∧rv=.slice A3 (ls.take j).flatten.length c3∧wr.ownsRow w.heap.size 3 1 (.slice A3 (ls.take j).flatten.length c3) (ls.take j).flatten.length (ints (ls.take j).flatten)∧Below w.heap.size w wr) (fun iv _ _=>ls.length-(intOf iv).toNat)
   case atStart=>exact⟨0,A2,c2,Nat.zero_le _,rfl,rfl,own2,hb2⟩
   case round=>
    clear own2 hb2;obtain⟨j,A3,c3,hj,rfl,rfl,own,hb⟩:=hrel
    by_cases hlt:j<ls.length
    ·have k0:(0:Int)≤j:=by omega
     have k1:(j:Int)<ls.length:=by omega
     obtain⟨b,off,A1,c1,hA,hb1,y,hrd⟩:=rd_row (Hr.out.below hb (fun _ h=>h)) hlt;subst hA;have hs1:=Hle.out (j+1);have hs2:=Hst.out j hlt;have hs3:=congrArg List.length hs2;rw[List.length_append]at hs3;have Hs2:=eh hs2;have Hs3:=eh hs3;rw[hs3]at hs1;have hrd2:=hrd.rd (B:=w.heap.size) (fun b h=>h);have Hrd:=eh hrd2;have hwz:=hb.size;clear hs2 hs3 hrd hrd2;generalize(ls.take j).flatten=sl at*;generalize ls.getD j []=l1 at*;go_wp2_with (at_builtin
                                                                                                                                                                                                                                                                                                                                                                                                                                                      refine wpList_append_rd rfl (.tmp 31) (.tmp 32) 38 rfl w.heap.size 3 ii _ 8 Tryz.underlying38 Hi1.out Hi2.out Hi3.out Hi4.out rfl (.slice A3 sl.length c3) sl.length (ints sl) rfl own w.heap.size A1 l1.length c1 (ints l1) rfl Hrd.out (fun u hu=>ints_one hu) (by unfold maxLen;omega) (by omega) hwz ?_;intro A4 c4 w4 own4 hg4)
     go_roundw
     case rel=>exact⟨j+1,A4,c4,by omega,by go_num,by rw[Hs3.out],by rw[Hs2.out,List.length_append];simpa[ints]using own4,hb.grown hg4 hwz (fun i hi=>(own.lt i hi).1)⟩
     case measure=>simp[intOf];omega
    ·have e:j=ls.length:=by omega
     have hge2:¬(j:Int)<ls.length:=by omega
     have e2:(ls.take j).flatten=ls.flatten:=by rw[e,List.take_length]
     rw[e2]at own⊢;rw[Hfn.out]at own⊢;clear hlt e e2;go_wp2;exact HP.out _ _ _ _ rfl own hb
end Go.Proofs.YtgbgbmdiomhfiaaGreatDoor