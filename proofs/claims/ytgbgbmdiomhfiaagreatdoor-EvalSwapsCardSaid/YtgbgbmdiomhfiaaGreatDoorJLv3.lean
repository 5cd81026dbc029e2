/-
 Lv0, Lv1, Lv2, Lv3.
-/
import Derived.Test.YtgbgbmdiomhfiaaGreatDoorJVr1
import Derived.Test.YtgbgbmdiomhfiaaGreatDoorJKx
import Derived.Test.YtgbgbmdiomhfiaaGreatDoorJEv3
import Derived.Test.YtgbgbmdiomhfiaaGreatDoorJSs3
import Derived.Test.YtgbgbmdiomhfiaaGreatDoorJBt1
set_option linter.unusedSimpArgs false
set_option linter.unusedVariables false
set_option maxHeartbeats 8000000
set_option maxRecDepth 100000
namespace Go.Proofs.YtgbgbmdiomhfiaaGreatDoor
open Go.RowKit Go.Maps
abbrev lmv(gv:Nat)(mi d s:Int)(a b c:ByteArray)(k l:Value):Array Value:=#[.pointer (some ⟨gv,0,none⟩),.int .i64 mi,.int .u32 d,.int .i32 s,.int .u32 0,.string a,.string b,.string c,k,l]
abbrev lm0(gv:Nat)(mi:Int):Array Value:=lmv gv mi 0 0 ⟨#[]⟩ ⟨#[]⟩ ⟨#[]⟩ (.slice none 0 0) (.slice none 0 0)
theorem liveOf_any(gv:Nat)(m:Int)(w:World):Calls Tryz.prog 148 #[.pointer (some ⟨gv,0,none⟩),.int .i64 m] w fun e w'=>e=.returned (.pointer (some ⟨w.heap.size,0,none⟩))∧w'=w.alloc (.cells (lm0 gv m) 277):=by
 go_enter Tryz.func148,Tryz.ntmps148;go_wp2;go_ret;exact⟨rfl,rfl⟩
section
variable {w w' w2:World} {X Y:Nat→Prop} {B g:Nat} {t:TypeId} {cs:Array Value}
theorem SetW.kb{gw n x:Nat}{S:Nat→Prop}(h:SetW w g gw n x)(k:KB S w w')(h1:S g)(h2:0<n→S gw):SetW w' g gw n x:=by
 obtain⟨a,b,A,c,d,e⟩:=h;exact⟨a,b,A,c,(k _ h1).trans d,fun hn=>⟨(e hn).1,(e hn).2.choose,(k _ (h2 hn)).trans (e hn).2.choose_spec⟩⟩
end
def prow(L:List (Option Nat))(gs:Nat→Nat):List Value:=(List.range L.length).map fun i=>.pointer (if(L.getD i none).isSome=true then some ⟨gs i,0,none⟩else none)
structure LvMem(w:World)(S:Nat→Prop)(gm gv:Nat)(mi d s:Int)(mm:Mth)(L:List (Option Nat))(gs gw:Nat→Nat)(Ak:Option Addr)(ck ga cl:Nat):Prop where
 blk:Blk w gm 277 (lmv gv mi d s mm.pa mm.lo mm.re (.slice Ak mm.code.length ck) (.slice (some ⟨ga,0,none⟩) L.length cl))
 code:RdS w (fun b=>S b∧b<ga) 4 Ak mm.code.length (icells mm.code)
 row:Blk w ga 263 ⟨prow L gs⟩∧S ga
 sets:∀(i x:Nat),L[i]? =some (some x)→SetW w (gs i) (gw i) (nloc mm) x∧S (gs i)∧S (gw i)∧(13+1)≤gw i∧ga<gw i
 inj:∀(i j x y:Nat),L[i]? =some (some x)→L[j]? =some (some y)→gw i=gw j→i=j
 ne:∀(i j x y:Nat),L[i]? =some (some x)→L[j]? =some (some y)→gs i≠gw j
 lt:∀b,S b→b<w.heap.size∧b≠gm∧b≠gv
theorem prow_cell{w:World}{g:Nat}{L:List (Option Nat)}{gs:Nat→Nat}(h:Blk w g 263 ⟨prow L gs⟩){i:Nat}(hi:i<L.length):w.cell? ⟨g,i,none⟩=some (.pointer (if(L.getD i none).isSome=true then some ⟨gs i,0,none⟩else none)):=by
 rw[h.cell];simp[prow,hi]
theorem LvMem.kb{w w':World}{S:Nat→Prop}{gm gv:Nat}{mi d s:Int}{mm:Mth}{L:List (Option Nat)}{gs gw:Nat→Nat}{Ak:Option Addr}{ck ga cl:Nat}(h:LvMem w S gm gv mi d s mm L gs gw Ak ck ga cl)(k:KB (fun b=>S b∨b=gm) w w')(hz:w.heap.size≤w'.heap.size):LvMem w' S gm gv mi d s mm L gs gw Ak ck ga cl:=by
 have k2:KB S w w':=k.sub fun b hb=>.inl hb
 exact⟨(k gm (.inr rfl)).trans h.blk,h.code.keep (k2.kept.sub fun b hb=>hb.1),⟨(k2 ga h.row.2).trans h.row.1,h.row.2⟩,fun i x e=>⟨(h.sets i x e).1.kb k2 (h.sets i x e).2.1 (fun _=>(h.sets i x e).2.2.1),(h.sets i x e).2⟩,h.inj,h.ne,fun b hb=>⟨Nat.lt_of_lt_of_le (h.lt b hb).1 hz,(h.lt b hb).2⟩⟩
section
variable {w w':World} {S S':Nat→Prop} {gm gv:Nat} {mi d s:Int} {mm:Mth} {L:List (Option Nat)} {gs gw:Nat→Nat} {Ak:Option Addr} {ck ga cl:Nat}
theorem LvMem.more(h:LvMem w S gm gv mi d s mm L gs gw Ak ck ga cl)(hs:∀b,S b→S' b)(hl:∀b,S' b→b<w.heap.size∧b≠gm∧b≠gv):LvMem w S' gm gv mi d s mm L gs gw Ak ck ga cl:=
 ⟨h.blk,h.code.more fun b hb=>⟨hs b hb.1,hb.2⟩,⟨h.row.1,hs _ h.row.2⟩,fun i x e=>⟨(h.sets i x e).1,hs _ (h.sets i x e).2.1,hs _ (h.sets i x e).2.2.1,(h.sets i x e).2.2.2⟩,h.inj,h.ne,hl⟩
theorem prow_congr{L L':List (Option Nat)}{gs gs':Nat→Nat}(hl:L'.length=L.length)(h:∀i,i<L.length→(L'.getD i none).isSome=(L.getD i none).isSome∧((L.getD i none).isSome=true→gs' i=gs i)):prow L' gs'=prow L gs:=by
 unfold prow;rw[hl];refine List.map_congr_left fun i hi=>?_
 obtain⟨h1,h2⟩:=h i (List.mem_range.1 hi);rw[h1];cases e:(L.getD i none).isSome with
 |false=>rfl
 |true=>rw[h2 e]
theorem LvMem.up(h:LvMem w S gm gv mi d s mm L gs gw Ak ck ga cl){i x a:Nat}(hi:L[i]? =some (some x))(hg:w.grownBy w' (some (gw i)))(hs:SetW w' (gs i) (gw i) (nloc mm) (x|||a)):LvMem w' S gm gv mi d s mm (lvUp L i a) gs gw Ak ck ga cl:=by
 obtain⟨-,s1,s2,s3,s4⟩:=h.sets i x hi;have hl:i<L.length:=(List.getElem?_eq_some_iff.1 hi).1;have hx:lvAt L i=x:=by unfold lvAt;rw[Int.toNat_natCast,List.getD_eq_getElem?_getD,hi];rfl
 have hu:lvUp L i a=L.set i (some (x|||a)):=by unfold lvUp;rw[hx]
 have back:∀(j y:Nat),(lvUp L i a)[j]? =some (some y)→∃z,L[j]? =some (some z)∧(j=i∧y=x|||a∨j≠i∧z=y):=fun j y e=>by
  rw[hu]at e
  by_cases ej:i=j
  ·subst ej;rw[List.getElem?_set_self hl]at e;cases e;exact⟨x,hi,.inl ⟨rfl,rfl⟩⟩
  ·rw[List.getElem?_set_ne ej]at e;exact⟨y,e,.inr ⟨fun e=>ej e.symm,rfl⟩⟩
 have hlen:(lvUp L i a).length=L.length:=by simp[lvUp]
 refine⟨by rw[hlen];exact h.blk.grown hg (fun e=>(h.lt _ s2).2.1 (Option.some.inj e).symm),h.code.keep (Kept.grown (Kept.refl _ w) hg (fun b hb=>(h.lt b hb.1).1) (fun b hb e=>by cases e;have:=hb.2;omega)),⟨?_,h.row.2⟩,fun j y e=>?_,fun j k y z e1 e2 e3=>?_,fun j k y z e1 e2=>?_,fun b hb=>⟨Nat.lt_of_lt_of_le (h.lt b hb).1 hg.size,(h.lt b hb).2⟩⟩
 ·rw[prow_congr (L:=L) (gs:=gs) hlen (fun j hj=>⟨by
   rw[hu,List.getD_eq_getElem?_getD,List.getD_eq_getElem?_getD]
   by_cases ej:i=j
   ·subst ej;rw[List.getElem?_set_self hl,hi];rfl
   ·rw[List.getElem?_set_ne ej],fun _=>rfl⟩)]
  exact h.row.1.grown hg (fun e=>by cases e;omega)
 ·obtain⟨z,hz,⟨rfl,rfl⟩|⟨hne,rfl⟩⟩:=back j y e
  ·exact⟨hs,s1,s2,s3,s4⟩
  ·obtain⟨q1,q2⟩:=h.sets j z hz;exact⟨q1.grown hg (fun e=>h.ne j i z x hz hi (Option.some.inj e)) (fun _ e=>hne (h.inj j i z x hz hi (Option.some.inj e))),q2⟩
 ·obtain⟨y',hy,-⟩:=back j y e1;obtain⟨z',hz,-⟩:=back k z e2;exact h.inj j k y' z' hy hz e3
 ·obtain⟨y',hy,-⟩:=back j y e1;obtain⟨z',hz,-⟩:=back k z e2;exact h.ne j k y' z' hy hz
theorem LvMem.lay(h:LvMem w S gm gv mi d s mm L gs gw Ak ck ga cl){k g go:Nat}(hk:L[k]? =some none)(hs:SetW w g go (nloc mm) 0)(hS:S g∧S go)(h24:(13+1)≤go∧ga<go∧g≠go)(hf:∀(i x:Nat),L[i]? =some (some x)→gs i<g∧gs i<go∧gw i<go∧gw i<g):
 LvMem (w.setCell ⟨ga,k,none⟩ (.pointer (some ⟨g,0,none⟩))) S gm gv mi d s mm (L.set k (some 0)) (fun i=>if i=k then g else gs i) (fun i=>if i=k then go else gw i) Ak ck ga cl:=by
 have hl:k<L.length:=(List.getElem?_eq_some_iff.1 hk).1;have back:∀(j y:Nat),(L.set k (some 0))[j]? =some (some y)→j=k∧y=0∨j≠k∧L[j]? =some (some y):=fun j y e=>by
  by_cases ej:k=j
  ·subst ej;rw[List.getElem?_set_self hl]at e;cases e;exact .inl ⟨rfl,rfl⟩
  ·rw[List.getElem?_set_ne ej]at e;exact .inr ⟨fun e=>ej e.symm,e⟩
 have hlen:(L.set k (some 0)).length=L.length:=by simp
 have hg:=uA w ⟨ga,k,none⟩ (.pointer (some ⟨g,0,none⟩));have hga:=(h.lt ga h.row.2).2;have nset:∀{a b n x:Nat},SetW w a b n x→some a≠some ga∧(0<n→some b≠some ga):=fun{a b n x} q=>by
  obtain⟨-,-,A,c,q1,q2⟩:=q;refine⟨fun e=>q1.ne_ h.row.1 (by decide) (Option.some.inj e),fun hn e=>(q2 hn).2.choose_spec.ne_ h.row.1 (by decide) (Option.some.inj e)⟩
 refine⟨by rw[hlen];exact h.blk.far (fun e=>hga.1 e.symm) _,h.code.keep (Kept.grown (Kept.refl _ w) hg (fun b hb=>(h.lt b hb.1).1) (fun b hb e=>by cases e;have:=hb.2;exact absurd this (Nat.lt_irrefl _))),⟨?_,h.row.2⟩,fun j y e=>?_,fun i j x y e1 e2 e3=>?_,fun i j x y e1 e2=>?_,fun b hb=>⟨by simpa using(h.lt b hb).1,(h.lt b hb).2⟩⟩
 ·have:=h.row.1.set_ k (.pointer (some ⟨g,0,none⟩));have e:(⟨prow (L.set k (some 0)) (fun i=>if i=k then g else gs i)⟩:Array Value)=(⟨prow L gs⟩:Array Value).setIfInBounds k (.pointer (some ⟨g,0,none⟩)):=by
   simp only[List.setIfInBounds_toArray];congr 1;apply List.ext_getElem
   ·simp[prow]
   ·intro i h1 h2;have hi:i<L.length:=by simpa[prow]using h1
    by_cases ek:k=i
    ·subst ek;simp[prow,hl]
    ·have ek2:¬i=k:=fun e=>ek e.symm
     simp[prow,List.getElem_set_ne ek,List.getElem?_set_ne ek,ek2]
  rw[e];exact this
 ·rcases back j y e with⟨rfl,rfl⟩|⟨hne,hy⟩
  ·simp only[if_true];exact⟨hs.grown hg (nset hs).1 (nset hs).2,hS.1,hS.2,h24.1,h24.2.1⟩
  ·simp only[if_neg hne];obtain⟨q1,q2⟩:=h.sets j y hy;exact⟨q1.grown hg (nset q1).1 (nset q1).2,q2⟩
 ·rcases back i x e1 with⟨rfl,rfl⟩|⟨h1,hx⟩<;>rcases back j y e2 with⟨rfl,rfl⟩|⟨h2,hy⟩
  ·rfl
  ·simp only[if_true,if_neg h2]at e3;have:=hf j y hy;omega
  ·simp only[if_true,if_neg h1]at e3;have:=hf i x hx;omega
  ·simp only[if_neg h1,if_neg h2]at e3;exact h.inj i j x y hx hy e3
 ·rcases back i x e1 with⟨rfl,rfl⟩|⟨h1,hx⟩<;>rcases back j y e2 with⟨rfl,rfl⟩|⟨h2,hy⟩
  ·simp only[if_true];exact h24.2.2
  ·simp only[if_true,if_neg h2];have:=hf j y hy;omega
  ·simp only[if_true,if_neg h1];have:=hf i x hx;omega
  ·simp only[if_neg h1,if_neg h2];exact h.ne i j x y hx hy
end
theorem Tz.kx{w w':World}{X:Nat→Prop}(h:Tz w)(k:KX X w w')(hx:∀b,X b→(13+1)≤b):Tz w':=
 ⟨Nat.lt_of_lt_of_le h.1 k.size,fun j hj=>(World.cell?_of_block (a:=⟨_,j,none⟩) (k.block _ h.1 (fun hX=>absurd (hx _ hX) (show¬(13+1)≤13 by decide)))).trans (h.2 j hj)⟩
def accF(L:List (Option Nat))(l:List Int)(k:Nat):Nat:=(l.take k).foldl (fun a j=>a|||lvAt L j) 0
theorem acc_succ(L:List (Option Nat))(l:List Int){k:Nat}(hk:k<l.length):accF L l (k+1)=accF L l k|||lvAt L (l.getD k 0):=by
 unfold accF;rw[List.take_add_one,List.getElem?_eq_getElem hk,List.foldl_append];simp[List.getD_eq_getElem?_getD,List.getElem?_eq_getElem hk]
def NewSet(w:World)(n x:Nat)(e:Ending)(w':World):Prop:=∃g gw,e=.returned (.pointer (some ⟨g,0,none⟩))∧SetW w' g gw n x∧w.heap.size≤g∧w.heap.size≤gw∧gw<w'.heap.size∧Below w.heap.size w w'
theorem behind_any{w:World}{S:Nat→Prop}{gm gv:Nat}{mi d s:Int}{mm:Mth}{L:List (Option Nat)}{gs gw:Nat→Nat}{Ak:Option Addr}{ck ga cl:Nat}(hM:LvMem w S gm gv mi d s mm L gs gw Ak ck ga cl)(hn:nloc mm≤12)(hcode:mm.code.length≤1000)(hlen:L.length=mm.code.length)(hT:Tz w)(pc:Nat)(hnn:∀j∈nextF mm pc,0≤j):
 Calls Tryz.prog 151 #[.pointer (some ⟨gm,0,none⟩),.int .i64 pc] w (NewSet w (nloc mm) (behF mm L pc)):=by
 have HM:=eh hM;have HT:=eh hT;have HN:=eh hnn;have Hn:=eh hn;have Hc:=eh hcode;have Hl:=eh hlen;have c5:w.cell? ⟨gm,5,none⟩=some (.string mm.pa):=hM.blk.cell 5;have c6:w.cell? ⟨gm,6,none⟩=some (.string mm.lo):=hM.blk.cell 6;have c7:w.cell? ⟨gm,7,none⟩=some (.string mm.re):=hM.blk.cell 7;have c8:w.cell? ⟨gm,8,none⟩=some (.slice Ak mm.code.length ck):=hM.blk.cell 8;have lm:=hM.blk.lt;have Hk:=eh (kinds_any Ak ck mm w (by unfold nloc at hn;omega));clear hM hT hnn hn hcode hlen;go_enter Tryz.func151,Tryz.ntmps151;go_wp2_with fail;refine Hk.out.mono ?_;rintro e w1 ⟨rfl,hb1⟩;go_wp2_with fail;rw[show((mm.pa.size:Int)+mm.lo.size)=((nloc mm:Nat):Int)from by simp[nloc]];refine(snew_any Hn.out w1).mono ?_;rintro e w2 ⟨rfl,hS2,hb12,hU⟩;have l1:=hb1.size;have hb2:=hb1.trans (hb12.mono l1);have M2:=HM.out.kb (KB.of_below hb2 (fun b hb=>hb.elim (fun h=>(HM.out.lt b h).1) (fun e=>e▸lm))) hb2.size;have lg2:=hS2.lt;obtain⟨go,hgo⟩:∃go,go=w1.heap.size:=⟨_,rfl⟩;have HU:=eh hU;have HS2:=eh hS2;have l2:go<w2.heap.size:=by omega
 have lgo:w.heap.size≤go:=by omega
 rw[←hgo]at HS2 HU⊢;have d5:w2.cell? ⟨gm,5,none⟩=some (.string mm.pa):=M2.blk.cell 5;have d6:w2.cell? ⟨gm,6,none⟩=some (.string mm.lo):=M2.blk.cell 6;have d7:w2.cell? ⟨gm,7,none⟩=some (.string mm.re):=M2.blk.cell 7;have d8:w2.cell? ⟨gm,8,none⟩=some (.slice Ak mm.code.length ck):=M2.blk.cell 8;have Hx:=eh (next_any Ak ck mm pc w2 (M2.code.rd (fun b hb=>(M2.lt b hb.1).1)) (by have:=Hc.out;omega));clear hb12 hU hS2 l1 hgo lg2 c5 c6 c7 c8 M2 Hk hb1;go_wp2_with fail;refine Hx.out.mono ?_;rintro e w3 ⟨A,n,c,hn2,rfl,hrow,hb23⟩;have hb3:=hb2.trans (hb23.mono hb2.size);have hl:(nextF mm pc).length=n:=by have:=hrow.1;simpa[ints]using this
 have S3:=HS2.out.below hb23 HS2.out.lt (fun _=>l2);have l3:go<w3.heap.size:=Nat.lt_of_lt_of_le l2 hb23.size;have HR:=eh hrow;have HB3:=eh hb3;have Hln:=eh hl;have HV:Hid (∀k,k<n→∃b off,A=some ⟨b,off,none⟩∧b<w3.heap.size∧b≠go∧w3.cell? ⟨b,off+k,none⟩=some (.int .i64 ((nextF mm pc).getD k 0))):=eh (fun k hk=>by
  obtain⟨b,off,e,hb,hc⟩:=hrow.2 (by omega);have hck:=hc k (.int .i64 ((nextF mm pc).getD k 0)) (by simp[ints,hl,hk]);refine⟨b,off,e,hb,fun e2=>?_,hck⟩;subst e2;rw[show w3.cell? ⟨b,off+k,none⟩=w2.cell? ⟨b,off+k,none⟩from hb23.cell (p:=⟨b,off+k,none⟩) l2]at hck;obtain⟨u,hu⟩:=HU.out _ _ hck;cases hu)
 clear hrow hb23 hb3 hl hb2 d5 d6 d7 d8 Hx HS2 HU;go_wp2_with fail;go_loopw [22] (fun iv wr=>∃k:Nat,k≤n∧iv=.int .i64 k∧Hid (SetW wr (go+1) go (nloc mm) (accF L (nextF mm pc) k))∧Hid (w3.grownBy wr (some go))) (fun iv _=>n-(intOf iv).toNat)
 case atStart=>exact⟨0,Nat.zero_le _,rfl,eh S3,eh (gRefl _ _)⟩
 case round=>
  obtain⟨k,hk,rfl,HS,HG⟩:=hrel;have hbr:Below w.heap.size w wr:=HB3.out.grown HG.out HB3.out.size (fun j e=>by cases e;exact lgo);have Mr:=HM.out.kb (KB.of_below hbr (fun b hb=>hb.elim (fun h=>(HM.out.lt b h).1) (fun e=>e▸lm))) hbr.size;have d9:wr.cell? ⟨gm,9,none⟩=some (.slice (some ⟨ga,0,none⟩) L.length cl):=Mr.blk.cell 9;have lmr:=Mr.blk.lt;have HBr:=eh hbr;have HMr:=eh Mr;have hG:=HG.out.size;have lor:go<wr.heap.size:=Nat.lt_of_lt_of_le l3 hG;clear hbr Mr hG
  by_cases hlt:k<n
  ·have Hs:=eh (acc_succ L (nextF mm pc) (k:=k) (by rw[Hln.out];exact hlt));obtain⟨b,off,hA,lb,hbo,hv⟩:=HV.out k hlt;subst hA;have hv':wr.cell? ⟨b,off+k,none⟩=some (.int .i64 ((nextF mm pc).getD k 0)):=(World.cell?_of_block (a:=⟨b,off+k,none⟩) (HG.out.block b lb (by intro e;exact hbo (Option.some.inj e)))).trans hv;have lbr:b<wr.heap.size:=by have:=HG.out.size;omega
   have h0:=HN.out ((nextF mm pc).getD k 0) (by
    have hk2:k<(nextF mm pc).length:=by rw[Hln.out];exact hlt
    rw[List.getD_eq_getElem?_getD,List.getElem?_eq_getElem hk2];exact List.getElem_mem hk2)
   obtain⟨j,hj⟩:∃j:Nat,(nextF mm pc).getD k 0=j:=⟨((nextF mm pc).getD k 0).toNat,by omega⟩;rw[hj]at hv' Hs;clear hv hj h0 lb hbo;generalize hac:accF L (nextF mm pc) k=acc at*;clear hac
   by_cases hjl:j<L.length
   ·cases hx:L[j]? with
    |none=>rw[List.getElem?_eq_getElem hjl]at hx;cases hx
    |some o=>
     have e9:=prow_cell HMr.out.row.1 hjl;have l9:=HMr.out.row.1.lt;have hgd:L.getD j none=o:=by rw[List.getD_eq_getElem?_getD,hx];rfl
     rw[hgd]at e9;cases o with
     |none=>
      have Ha:=eh (show accF L (nextF mm pc) (k+1)=acc by rw[Hs.out];unfold lvAt;rw[Int.toNat_natCast,hgd];simp);clear hx hgd Hs;simp only[Option.isSome_none,Bool.false_eq_true,if_false]at e9;go_wp2;go_roundw
      case rel=>exact⟨k+1,by omega,by go_num,by rw[Ha.out];exact HS,HG⟩
      case measure=>simp[intOf];omega
     |some y=>
      obtain⟨q1,q2,q3,q4,-⟩:=HMr.out.sets j y hx;have Ha:=eh (show accF L (nextF mm pc) (k+1)=acc|||y by rw[Hs.out];unfold lvAt;rw[Int.toNat_natCast,hgd];rfl);have Hj:=eh (sjoin_any HS.out q1 ⟨by have:=HT.out.1;omega,lor⟩ (HT.out.below HBr.out HT.out.1));clear hx hgd Hs q1 q2 q3 q4;simp only[Option.isSome_some,if_true]at e9;go_wp2_with (go_at_call 168;refine Hj.out.mono ?_;rintro e w4 ⟨rfl,hS4,hg4⟩);go_roundw
      case rel=>exact⟨k+1,by omega,by go_num,by rw[Ha.out];exact eh hS4,eh (HG.out.trans hg4)⟩
      case measure=>simp[intOf];omega
   ·have Ha:=eh (show accF L (nextF mm pc) (k+1)=acc by rw[Hs.out];unfold lvAt;rw[Int.toNat_natCast,List.getD_eq_getElem?_getD,List.getElem?_eq_none (by omega)];simp);clear Hs;go_wp2;go_roundw
    case rel=>exact⟨k+1,by omega,by go_num,by rw[Ha.out];exact HS,HG⟩
    case measure=>simp[intOf];omega
  ·have e:k=n:=by omega
   have Hp:=eh (show NewSet w (nloc mm) (behF mm L pc) (.returned (.pointer (some ⟨go+1,0,none⟩))) wr from⟨go+1,go,rfl,by
    have:=HS.out;unfold accF at this;rw[e,←Hln.out,List.take_length]at this;exact this,by omega,lgo,lor,HBr.out⟩)
   clear e;go_wp2;go_ret;exact Hp.out
theorem ahead_any{w:World}{S:Nat→Prop}{gm gv:Nat}{mi d s:Int}{mm:Mth}{L:List (Option Nat)}{gs gw:Nat→Nat}{Ak:Option Addr}{ck ga cl:Nat}(hM:LvMem w S gm gv mi d s mm L gs gw Ak ck ga cl)(hn:nloc mm≤12)(hcode:mm.code.length≤1000)(hlen:L.length=mm.code.length)(hT:Tz w){pc:Nat}(hpc:pc<mm.code.length)(hnn:∀j∈nextF mm pc,0≤j):
 Calls Tryz.prog 176 #[.pointer (some ⟨gm,0,none⟩),.int .i64 pc] w (NewSet w (nloc mm) (ahdF mm L pc)):=by
 have Hb:=eh (behind_any hM hn hcode hlen hT pc hnn);have HM:=eh hM;have lm:=hM.blk.lt;have h24:=hT.1;have Hc:=eh hcode;have HP:=eh (fun b g go w' (h1:ahdF mm L pc=b) (h2:SetW w' g go (nloc mm) b) (h3:w.heap.size≤g∧w.heap.size≤go∧go<w'.heap.size) (h4:Below w.heap.size w w')=>(show NewSet w (nloc mm) (ahdF mm L pc) (.returned (.pointer (some ⟨g,0,none⟩))) w' from⟨g,go,rfl,by rw[h1];exact h2,h3.1,h3.2.1,h3.2.2,h4⟩));have HA:=eh (show ahdF mm L pc=stoF (nloc mm) (mm.code.getD pc default) (behF mm L pc)from rfl);clear hM hT hnn hn hcode hlen;generalize NewSet w (nloc mm) (ahdF mm L pc)=Post at*;generalize ahdF mm L pc=af at*;generalize behF mm L pc=bf at*;go_enter Tryz.func176,Tryz.ntmps176;go_wp2_with fail;refine Hb.out.mono ?_;rintro e w1 ⟨g,go,rfl,hS,hg1,hg2,hg3,hb1⟩;have M1:=HM.out.kb (KB.of_below hb1 (fun b hb=>hb.elim (fun h=>(HM.out.lt b h).1) (fun e=>e▸lm))) hb1.size;have d8:w1.cell? ⟨gm,8,none⟩=some (.slice Ak mm.code.length ck):=M1.blk.cell 8;have lm1:=M1.blk.lt;obtain⟨bk,ok,hA,lk,i0,i1,i2,i3⟩:=ins_at (M1.code.rd (fun b hb=>(M1.lt b hb.1).1)) hpc;subst hA;generalize mm.code.getD pc default=x at*;have HS:=eh hS;have HB1:=eh hb1;have bX:=Blk.new w1 24 #[.int .i64 x.op,.int .i64 x.a,.int .i64 x.b,.int .i64 x.n];have x0:=bX.at0;have x1:=bX.at1;have lX:=bX.lt;clear M1 hS hb1 bX Hb;go_upto_region 3 with(fail);have HS2:=eh (HS.out.grown (World.grownBy_alloc w1 (.cells #[.int .i64 x.op,.int .i64 x.a,.int .i64 x.b,.int .i64 x.n] 24) none) (by simp) (by simp));have HB2:=eh (HB1.out.alloc HB1.out.size (.cells #[.int .i64 x.op,.int .i64 x.a,.int .i64 x.b,.int .i64 x.n] 24));have hg3':go<(w1.alloc (.cells #[.int .i64 x.op,.int .i64 x.a,.int .i64 x.b,.int .i64 x.n] 24)).heap.size:=by simp;omega
 clear i0 i1 i2 i3 d8 lk lm1 HS HB1 hg3;obtain⟨gx,hgx⟩:∃gx,gx=w1.heap.size:=⟨_,rfl⟩;rw[←hgx]at x0 x1 lX⊢;clear hgx;generalize w1.alloc (.cells #[.int .i64 x.op,.int .i64 x.a,.int .i64 x.b,.int .i64 x.n] 24)=w2 at*
 by_cases e4:x.op=4
 ·have Hd:=eh (sdrop_any HS2.out x.a);have HF:=eh (show af=(if bhas (nloc mm) bf x.a=true then bdel bf x.a else bf) by rw[HA.out];unfold stoF;rw[if_pos e4]);rw[e4]at x0;clear e4;go_wp2_with (go_at_call 186;refine Hd.out.mono ?_;rintro e w3 ⟨rfl,hS3,hg23⟩);exact HP.out _ g go w3 HF.out hS3 ⟨hg1,hg2,Nat.lt_of_lt_of_le hg3' hg23.size⟩ (HB2.out.grown hg23 HB2.out.size (fun j e=>by cases e;exact hg2))
 ·by_cases e3:x.op=3
  ·have Hd:=eh (sadd_any HS2.out x.a);have HF:=eh (show af=badd (nloc mm) bf x.a by rw[HA.out];unfold stoF;rw[if_neg e4,if_pos e3]);rw[e3]at x0;clear e3 e4;go_wp2_with (go_at_call 180;refine Hd.out.mono ?_;rintro e w3 ⟨rfl,hS3,hg23⟩);exact HP.out _ g go w3 HF.out hS3 ⟨hg1,hg2,Nat.lt_of_lt_of_le hg3' hg23.size⟩ (HB2.out.grown hg23 HB2.out.size (fun j e=>by cases e;exact hg2))
  ·have HF:=eh (show af=bf by rw[HA.out];unfold stoF;rw[if_neg e4,if_neg e3]);go_wp2;exact HP.out _ g go w2 HF.out HS2.out ⟨hg1,hg2,hg3'⟩ HB2.out
def seenL(vs:List Vs)(mi:Nat)(n:Nat):List Bool:=(List.range n).map fun(pc:Nat)=>(stackF vs mi pc).2
structure WorkIn(w:World)(Sv:Nat→Prop)(gm gv:Nat)(p:Prg)(vs:List Vs)(mi:Nat)(mm:Mth):Prop where
 inf:InfoG w Sv gv p vs
 blk:Blk w gm 277 (lmv gv mi 0 1 ⟨#[]⟩ ⟨#[]⟩ ⟨#[]⟩ (.slice none 0 0) (.slice none 0 0))
 ne:gm≠gv∧¬Sv gm
 hmi:mi<p.methods.length
 hmm:p.methods.getD mi default=mm
 vlen:vs.length=p.methods.length
 vsz:∀i,i<vs.length→(vs.getD i default).stacks.length=(vs.getD i default).seen.length
 cls:p.classes.length≤1000
 mts:p.methods.length≤1000∧∀k,k<p.methods.length→(p.methods.getD k default).code.length≤1000
 loc:nloc mm≤12
 nxt:∀pc:Nat,∀j∈nextF mm pc,0≤j
 tz:Tz w
 lo:(13+1)≤gm∧(13+1)≤gv
def WorkPost(w:World)(Sv:Nat→Prop)(gm gv:Nat)(p:Prg)(vs:List Vs)(mi:Nat)(mm:Mth)(e:Ending)(w':World):Prop:=
 e=.returned (.tuple #[])∧∃S L gs gw Ak ck ga cl,LvMem w' S gm gv mi 0 1 mm L gs gw Ak ck ga cl∧LvOk mm (seenL vs mi mm.code.length) L∧(∀b,S b→w.heap.size≤b)∧KX (fun b=>b=gm∨b=gv) w w'∧InfoG w' Sv gv p vs
theorem infoPSet:(Tryz.prog.info? 263).map (fun i=>(i.zero,i.size,i.bytes))=some (some (.pointer none),1,8):=by kernel_rfl
def Sx(w wr:World)(b:Nat):Prop:=w.heap.size≤b∧b<wr.heap.size
def L1(seen:List Bool)(n k:Nat):List (Option Nat):=(List.range n).map fun i=>if i<k∧seen.getD i false=true then some 0 else none
theorem L1_len(seen:List Bool)(n k:Nat):(L1 seen n k).length=n:=by simp[L1]
theorem L1_at{seen:List Bool}{n k i:Nat}(hi:i<n):(L1 seen n k)[i]? =some (if i<k∧seen.getD i false=true then some 0 else none):=by simp[L1,hi]
theorem prow_L1(seen:List Bool)(n:Nat)(gs:Nat→Nat):prow (L1 seen n 0) gs=List.replicate n (.pointer none):=by
 apply List.ext_getElem
 ·simp[prow,L1]
 ·intro i h1 h2;have hi:i<n:=by simpa using h2
  simp[prow,L1,hi]
theorem lv_start{w w4 w5:World}{gm gv:Nat}{mi:Int}{mm:Mth}{Ak:Option Addr}{ck:Nat}(seen:List Bool)(hw:w.heap.size≤w4.heap.size)(hz:w5.heap.size=w4.heap.size+1)(hgm:gm<w.heap.size)(hgv:gv<w.heap.size)
 (bM:Blk w5 gm 277 (lmv gv mi 0 1 mm.pa mm.lo mm.re (.slice Ak mm.code.length ck) (.slice (some ⟨w4.heap.size,0,none⟩) mm.code.length mm.code.length)))
 (bR:Blk w5 w4.heap.size 263 (Array.replicate mm.code.length (.pointer none)))(hc:RdS w5 (Sx w w4) 4 Ak mm.code.length (icells mm.code)):
 LvMem w5 (Sx w w5) gm gv mi 0 1 mm (L1 seen mm.code.length 0) id id Ak ck w4.heap.size mm.code.length:=by
 refine⟨by rw[L1_len];exact bM,hc.more (fun b hb=>⟨⟨hb.1,by have:=hb.2;omega⟩,hb.2⟩),⟨?_,hw,by omega⟩,fun i x e=>?_,fun i j x y e=>?_,fun i j x y e=>?_,fun b hb=>⟨hb.2,by have:=hb.1;omega,by have:=hb.1;omega⟩⟩
 ·have e:(Array.replicate mm.code.length (Value.pointer none))=⟨prow (L1 seen mm.code.length 0) id⟩:=by rw[prow_L1];simp
  rw[←e];exact bR
 ·have hi:i<mm.code.length:=by rw[←L1_len seen mm.code.length 0];exact(List.getElem?_eq_some_iff.1 e).1
  rw[L1_at hi]at e;simp at e
 ·have hi:i<mm.code.length:=by rw[←L1_len seen mm.code.length 0];exact(List.getElem?_eq_some_iff.1 e).1
  rw[L1_at hi]at e;simp at e
 ·have hi:i<mm.code.length:=by rw[←L1_len seen mm.code.length 0];exact(List.getElem?_eq_some_iff.1 e).1
  rw[L1_at hi]at e;simp at e
theorem L1_none{seen:List Bool}{n k:Nat}(h:seen.getD k false=false):L1 seen n (k+1)=L1 seen n k:=by
 unfold L1;refine List.map_congr_left fun i _=>?_
 by_cases e:i=k
 ·subst e;have q:∀{P:Prop},¬(P∧seen.getD i false=true):=fun x=>by rw[h]at x;exact absurd x.2 (by simp)
  rw[if_neg q,if_neg q]
 ·have :i<k+1↔i<k:=by omega
  simp only[this]
theorem L1_some{seen:List Bool}{n k:Nat}(hk:k<n)(h:seen.getD k false=true):L1 seen n (k+1)=(L1 seen n k).set k (some 0):=by
 apply List.ext_getElem?;intro i
 by_cases e:k=i
 ·subst e;rw[List.getElem?_set_self (by rw[L1_len];exact hk),L1_at hk,if_pos ⟨by omega,h⟩]
 ·rw[List.getElem?_set_ne e]
  by_cases hi:i<n
  ·have :i<k+1↔i<k:=by omega
   rw[L1_at hi,L1_at hi];simp only[this]
  ·rw[List.getElem?_eq_none (by rw[L1_len];omega),List.getElem?_eq_none (by rw[L1_len];omega)]
theorem L1_on{mm:Mth}{seen:List Bool}(hs:seen.length=mm.code.length):LvOn mm seen (L1 seen mm.code.length mm.code.length):=by
 have h0:∀pc:Nat,lvAt (L1 seen mm.code.length mm.code.length) pc=0:=fun pc=>by
  unfold lvAt;rw[Int.toNat_natCast,List.getD_eq_getElem?_getD]
  by_cases h:pc<mm.code.length
  ·rw[L1_at h];split<;>rfl
  ·rw[List.getElem?_eq_none (by rw[L1_len];omega)];rfl
 refine⟨⟨L1_len _ _ _,fun pc h=>?_,fun pc=>by rw[h0];exact Nat.pow_pos (by omega)⟩,fun M _ _ pc=>by rw[h0];exact sub_zero _⟩;rw[List.getD_eq_getElem?_getD,L1_at h];cases e:seen.getD pc false<;>simp[h,e]
theorem work_any{w:World}{Sv:Nat→Prop}{gm gv:Nat}{p:Prg}{vs:List Vs}{mi:Nat}{mm:Mth}(h:WorkIn w Sv gm gv p vs mi mm):
 Calls Tryz.prog 165 #[.pointer (some ⟨gm,0,none⟩)] w (WorkPost w Sv gm gv p vs mi mm):=by
 have H:=eh h;have c0:w.cell? ⟨gm,0,none⟩=some (.pointer (some ⟨gv,0,none⟩)):=h.blk.cell 0;have lm:=h.blk.lt;have Hp:=eh (program_any w h.inf h.cls h.mts.1 h.mts.2);clear h;go_enter Tryz.func165,Tryz.ntmps165;go_wp2_with fail;refine Hp.out.mono ?_;rintro e w1 ⟨Ac,cc,Am,cm,rfl,hps,hb1⟩;have bM1:=H.out.blk.below hb1 lm;have bP:=Blk.new w1 31 #[.slice Ac p.classes.length cc,.slice Am p.methods.length cm];have bM:=bM1.alloc (.cells #[.slice Ac p.classes.length cc,.slice Am p.methods.length cm] 31);have hb2:=hb1.alloc hb1.size (.cells #[.slice Ac p.classes.length cc,.slice Am p.methods.length cm] 31);have hps2:=hps.keep (Kept.of_below ((Below.refl w1.heap.size w1).alloc (Nat.le_refl _) (.cells #[.slice Ac p.classes.length cc,.slice Am p.methods.length cm] 31)) (fun b hb=>hb.2));have hl1:=hb1.size;clear hps bM1 Hp c0;go_upto_region 1 with(fail);obtain⟨gp,hgp⟩:∃gp,gp=w1.heap.size:=⟨_,rfl⟩;rw[←hgp]at bP hps2 hl1⊢;have hgl:=bP.lt;clear hgp hb1;generalize w1.alloc (.cells #[.slice Ac p.classes.length cc,.slice Am p.methods.length cm] 31)=w2 at*;have c1:=bM.at1;have q1:=bP.at1;have lm2:=bM.lt;have t1:decide ((mi:Int)<0)=false:=by simp
 have hmi:=H.out.hmi;have t2:decide (p.methods.length≤mi)=false:=by simp;omega
 have HB:=eh hb2;have HPS:=eh hps2;have HM:=eh bM;have HPb:=eh bP;clear hb2 hps2 bM bP;go_quiet (fail);rename Nat=>q
 go_upto_region 2 with(fail);have HB3:=eh (uC HB.out q);have HPS3:=eh (HPS.out.keep (w':=w2.drewN q) (fun _ _=>rfl));have HM3:Hid (Blk (w2.drewN q) gm _ _):=HM;have bP3:Blk (w2.drewN q) gp _ _:=HPb.out;have hgl3:gp<(w2.drewN q).heap.size:=hgl;clear HB HPS HM HPb c1 q1 lm2 hgl t1 t2;generalize w2.drewN q=w3 at*;obtain⟨bm,om,⟨Ak,ck⟩,hA,hbm,hm,hcd⟩:=HPS3.out.ms.at (show p.methods[mi]? =some mm by rw[←H.out.hmm];simp[hmi]);have m0:w3.cell? ⟨bm,om+mi*4,none⟩=some (.string mm.pa):=hm 0 _ rfl;have m1:w3.cell? ⟨bm,om+mi*4+1,none⟩=some (.string mm.lo):=hm 1 _ rfl;have m2:w3.cell? ⟨bm,om+mi*4+2,none⟩=some (.string mm.re):=hm 2 _ rfl;have m3:w3.cell? ⟨bm,om+mi*4+3,none⟩=some (.slice Ak mm.code.length ck):=hm 3 _ rfl;have HC:=eh (show RdS w3 (fun b=>w.heap.size≤b∧b<gp) 4 Ak mm.code.length (icells mm.code)from hcd);subst hA;clear hm hcd;refine uE (S:=fun W=>W.cell? ⟨gm,1,none⟩=some (.int .i64 mi)∧W.cell? ⟨gp,1,none⟩=some (.slice (some ⟨bm,om,none⟩) p.methods.length cm)∧W.cell? ⟨bm,om+mi*4,none⟩=some (.string mm.pa)∧W.cell? ⟨bm,om+mi*4+1,none⟩=some (.string mm.lo)∧W.cell? ⟨bm,om+mi*4+2,none⟩=some (.string mm.re)∧W.cell? ⟨bm,om+mi*4+3,none⟩=some (.slice Ak mm.code.length ck)) (fun q=>decide (q<9)) (by kernel_rfl) ⟨HM3.out.at1,bP3.at1,m0,m1,m2,m3⟩ (fun HS=>?_);have f5:w3.frozen? ⟨gm,5,none⟩=false:=HM3.out.frozen 5;have f6:w3.frozen? ⟨gm,6,none⟩=false:=HM3.out.frozen 6;have f7:w3.frozen? ⟨gm,7,none⟩=false:=HM3.out.frozen 7;have f8:w3.frozen? ⟨gm,8,none⟩=false:=HM3.out.frozen 8;have e5:w3.cell? ⟨gm,5,none⟩=some (.string ⟨#[]⟩):=HM3.out.cell 5;have e6:w3.cell? ⟨gm,6,none⟩=some (.string ⟨#[]⟩):=HM3.out.cell 6;have e7:w3.cell? ⟨gm,7,none⟩=some (.string ⟨#[]⟩):=HM3.out.cell 7;have e8:w3.cell? ⟨gm,8,none⟩=some (.slice none 0 0):=HM3.out.cell 8;have lm3:gm<w3.drew.heap.size:=HM3.out.lt;clear m0 m1 m2 m3
 iterate 9 (refine uO rfl rfl HS (.inl ⟨rfl,fun W hW=>by obtain⟨h0,h1,h2,h3,h4,h5⟩:=hW;go_simp;rfl⟩) ?_;simp only[pS])
 iterate 3 (refine uP rfl rfl (fun K HK=>?_);go_simp;refine HK.out _ _ (fun h=>by cases h) ?_;clear HK;simp only[pS])
 clear HS;refine uD (by kernel_rfl) ?_ _;obtain⟨w4,hw4,bM4,hg4⟩:∃w4,w4=((((w3.setCell ⟨gm,5,none⟩ (.string mm.pa)).setCell ⟨gm,6,none⟩ (.string mm.lo)).setCell ⟨gm,7,none⟩ (.string mm.re)).setCell ⟨gm,8,none⟩ (.slice Ak mm.code.length ck)).drew∧
  Blk w4 gm 277 (lmv gv mi 0 1 mm.pa mm.lo mm.re (.slice Ak mm.code.length ck) (.slice none 0 0))∧w3.grownBy w4 (some gm):=⟨_,rfl,by
  have:=(((HM3.out.set_ 5 (.string mm.pa)).set_ 6 (.string mm.lo)).set_ 7 (.string mm.re)).set_ 8 (.slice Ak mm.code.length ck);simp only[lmv,List.setIfInBounds_toArray,List.set_cons_zero,List.set_cons_succ]at this;exact this,(((uA w3 ⟨gm,5,none⟩ _).trans (uA _ ⟨gm,6,none⟩ _)).trans (uA _ ⟨gm,7,none⟩ _)).trans ((uA _ ⟨gm,8,none⟩ _).trans (gDrew _ _))⟩
 rw[←hw4];have Hg4:=eh hg4;have lm4:=bM4.lt;have HB4:=eh bM4;have c8:w4.cell? ⟨gm,8,none⟩=some (.slice Ak mm.code.length ck):=bM4.cell 8;have c9:w4.cell? ⟨gm,9,none⟩=some (.slice none 0 0):=bM4.cell 9;have f9:=bM4.frozen 9;have hcl:mm.code.length≤1000:=by rw[←H.out.hmm];exact H.out.mts.2 mi hmi
 have hm:=fun W=>run_make_row' (P:=Tryz.prog) 275 263 (.pointer none) 8 Tryz.underlying275 infoPSet rfl .i64 .i64 mm.code.length (by omega) (by omega) W
 rw[made_rep]at hm;clear hw4 bM4 hg4 e5 e6 e7 e8 f5 f6 f7 f8 lm3 HM3 bP3 HPS3 hbm;go_upto_region 4 with(fail);obtain⟨w5,hw5,hz5,bM5,bR5,hg5⟩:∃w5,w5=(w4.setCell ⟨gm,9,none⟩ (.slice (some ⟨w4.heap.size,0,none⟩) mm.code.length mm.code.length)).alloc (.cells (Array.replicate mm.code.length (.pointer none)) 263)∧w5.heap.size=w4.heap.size+1∧
  Blk w5 gm 277 (lmv gv mi 0 1 mm.pa mm.lo mm.re (.slice Ak mm.code.length ck) (.slice (some ⟨w4.heap.size,0,none⟩) mm.code.length mm.code.length))∧Blk w5 w4.heap.size 263 (Array.replicate mm.code.length (.pointer none))∧w4.grownBy w5 (some gm):=
  ⟨_,rfl,by simp,by
   have:=(HB4.out.set_ 9 (.slice (some ⟨w4.heap.size,0,none⟩) mm.code.length mm.code.length)).alloc (.cells (Array.replicate mm.code.length (.pointer none)) 263);simp only[lmv,List.setIfInBounds_toArray,List.set_cons_zero,List.set_cons_succ]at this;exact this,Blk.newAt (by simp) _ _,(uA w4 ⟨gm,9,none⟩ _).trans (World.grownBy_alloc _ _ _)⟩
 rw[←hw5];clear hw5 c8 c9 f9 hm;have lgv:gv<w.heap.size:=by obtain⟨_,_,_,_,_,_,_,hA⟩:=H.out.inf;exact hA.blk.lt
 have hk4:KX (fun b=>b=gm) w w4:=(KX.of_below HB3.out (Nat.le_refl _)).trans (KX.of_grown Hg4.out (fun g e=>by cases e;rfl));have hk5:KX (fun b=>b=gm) w w5:=hk4.trans (KX.of_grown hg5 (fun g e=>by cases e;rfl));have hI5:=H.out.inf.kb (hk5.kb (S:=fun b=>Sv b∨b=gv) (fun b hb=>hb.elim (fun h=>⟨(H.out.inf.lt b h).1,fun e=>H.out.ne.2 (e▸h)⟩) (fun e=>⟨e▸lgv,fun h=>H.out.ne.1 (h.symm.trans e)⟩))) hk5.size;have hc5:RdS w5 (Sx w w4) 4 Ak mm.code.length (icells mm.code):=(HC.out.keep (Kept.grown (Kept.refl _ w3) (Hg4.out.trans hg5) (fun b hb=>Nat.lt_trans hb.2 hgl3) (fun b hb e=>by cases e;have:=hb.1;omega))).more (fun b hb=>⟨hb.1,Nat.lt_of_lt_of_le (Nat.lt_trans hb.2 hgl3) Hg4.out.size⟩);have HL5:=eh (lv_start (seenL vs mi mm.code.length) hk4.size hz5 lm lgv bM5 bR5 hc5);have HI5:=eh hI5;have HK5:=eh (hk5.mono (Y:=fun b=>b=gm∨b=gv) (fun b _ e=>.inl e));have l24:(13+1)≤w4.heap.size:=by have:=H.out.tz.1;have:=hk4.size;omega
 have c9:w5.cell? ⟨gm,9,none⟩=some (.slice (some ⟨w4.heap.size,0,none⟩) mm.code.length mm.code.length):=bM5.cell 9;have lm5:=bM5.lt;have hsl:(seenL vs mi mm.code.length).length=mm.code.length:=by simp[seenL]
 have HSn:=eh (fun k (hk:k<mm.code.length)=>(show(seenL vs mi mm.code.length).getD k false=(stackF vs mi k).2 by simp[seenL,hk]));obtain⟨seen,hseen⟩:∃seen,seen=seenL vs mi mm.code.length:=⟨_,rfl⟩;rw[←hseen]at HL5 hsl HSn;have hgaw:=hk4.size;obtain⟨ga,hga⟩:∃ga,ga=w4.heap.size:=⟨_,rfl⟩;rw[←hga]at HL5 c9 l24 hgaw⊢;have Hseen:=eh hseen;have Hhsl:=eh hsl;clear hseen hsl hga hc5 hI5 hk4 hk5 bM5 bR5 hg5 hz5 HB4 Hg4 HC HB3 hgl3 lm4 hl1;go_wp2;go_loopw [54] (fun iv wr=>∃(k:Nat) (gs gw:Nat→Nat),k≤mm.code.length∧iv=.int .i64 k∧Hid (LvMem wr (Sx w wr) gm gv mi 0 1 mm (L1 seen mm.code.length k) gs gw Ak ck ga mm.code.length)∧Hid (InfoG wr Sv gv p vs)∧Hid (KX (fun b=>b=gm∨b=gv) w wr)) (fun iv _=>mm.code.length-(intOf iv).toNat)
 case atStart=>exact⟨0,id,id,Nat.zero_le _,rfl,HL5,HI5,HK5⟩
 case round=>
  clear HL5 HI5 HK5 c9 lm5;obtain⟨k,gs,gw,hk,rfl,HM,HI,HK⟩:=hrel
  by_cases hlt:k<mm.code.length
  ·have i0:(0:Int)≤k:=by omega
   have i1:(k:Int)<mm.code.length:=by omega
   go_upto_region 7 with(fail);refine uE (S:=fun W=>W.cell? ⟨gm,0,none⟩=some (.pointer (some ⟨gv,0,none⟩))∧W.cell? ⟨gm,1,none⟩=some (.int .i64 mi)) (fun _=>true) (by kernel_rfl) ⟨HM.out.blk.at0,HM.out.blk.at1⟩ (fun HS=>?_)
   iterate 9 (refine uO rfl rfl HS (.inl ⟨rfl,fun W hW=>by obtain⟨h0,h1⟩:=hW;go_simp;rfl⟩) ?_;simp only[pS])
   refine uP rfl rfl (fun K HJ=>?_);go_simp;refine(stack_any H.out.vlen H.out.vsz mi k wr.drew HI.out.drew).mono ?_;rintro e w6 ⟨rfl,hI6,hg6⟩;have hg6':=(gDrew wr (some gv)).trans hg6;have M6:=(HM.out.kb (KB.of_grown hg6' (fun b hb=>hb.elim (fun h=>h.2) (fun e=>e▸HM.out.blk.lt)) (fun b hb e=>by cases e;exact hb.elim (fun h=>(HM.out.lt _ h).2.2 rfl) (fun e=>H.out.ne.1 e.symm))) hg6'.size).more (S':=Sx w w6) (fun b hb=>⟨hb.1,Nat.lt_of_lt_of_le hb.2 hg6'.size⟩) (fun b hb=>⟨hb.2,by have:=hb.1;omega,by have:=hb.1;omega⟩);refine HJ.out _ _ (fun _=>⟨M6.blk.at0,M6.blk.at1⟩) ?_;clear HJ HS;simp only[pS]
   iterate 5 (refine uO rfl rfl ⟨M6.blk.at0,M6.blk.at1⟩ (.inl ⟨rfl,fun W hW=>by obtain⟨h0,h1⟩:=hW;go_simp;rfl⟩) ?_;simp only[pS])
   refine uD (by kernel_rfl) ?_ _;have HM6:=eh M6;have HI6:=eh hI6;have HK6:=eh (HK.out.new hg6' (fun g e _=>by cases e;exact .inr rfl));have hse:=HSn.out k hlt;clear M6 hI6 hg6 hg6' HM HI;cases hr:(stackF vs mi k).2 with
   |false=>
    rw[hr]at hse;have HN:=eh (L1_none (n:=mm.code.length) hse);clear hse hr;go_wp2;go_roundw
    case rel=>exact⟨k+1,gs,gw,by omega,by go_num,by rw[HN.out];exact HM6,HI6,HK6⟩
    case measure=>simp[intOf];omega
   |true=>
    rw[hr]at hse;have HN:=eh (L1_some hlt hse);clear hse hr;go_upto_region 9 with(fail);have lgm6:=HM6.out.blk.lt;have Md:=HM6.out.kb (w':=w6.drew) (fun b _=>rfl) (Nat.le_refl _);refine uE (S:=fun W=>W.cell? ⟨gm,9,none⟩=some (.slice (some ⟨ga,0,none⟩) mm.code.length mm.code.length)∧W.cell? ⟨gm,5,none⟩=some (.string mm.pa)∧W.cell? ⟨gm,6,none⟩=some (.string mm.lo)∧W.cell? ⟨gm,7,none⟩=some (.string mm.re)∧W.cell? ⟨gm,8,none⟩=some (.slice Ak mm.code.length ck)) (fun q=>decide (q<13)) (by kernel_rfl) ⟨by have:=Md.blk.cell 9;rw[L1_len]at this;exact this,Md.blk.cell 5,Md.blk.cell 6,Md.blk.cell 7,Md.blk.cell 8⟩ (fun HS=>?_)
    iterate 9 (refine uO rfl rfl HS (.inl ⟨rfl,fun W hW=>by obtain⟨h0,h1,h2,h3,h4⟩:=hW;go_simp;rfl⟩) ?_;simp only[pS])
    refine uP rfl rfl (fun K HJ=>?_);go_simp;refine(kinds_any Ak ck mm w6.drew (by have:=H.out.loc;unfold nloc at this;omega)).mono ?_;rintro e w7 ⟨rfl,hb7'⟩;have hb7:Below w6.heap.size w6 w7:=⟨hb7'.os,hb7'.tape,hb7'.output,hb7'.size,hb7'.block⟩;have lt6:∀b,Sx w w6 b∨b=gm→b<w6.heap.size:=fun b hb=>hb.elim (fun h=>h.2) (fun e=>e▸lgm6)
    have M7:=HM6.out.kb (KB.of_below hb7 lt6) hb7.size;have C7:w7.cell? ⟨gm,9,none⟩=some (.slice (some ⟨ga,0,none⟩) mm.code.length mm.code.length)∧w7.cell? ⟨gm,5,none⟩=some (.string mm.pa)∧w7.cell? ⟨gm,6,none⟩=some (.string mm.lo)∧w7.cell? ⟨gm,7,none⟩=some (.string mm.re)∧w7.cell? ⟨gm,8,none⟩=some (.slice Ak mm.code.length ck):=⟨by have:=M7.blk.cell 9;rw[L1_len]at this;exact this,M7.blk.cell 5,M7.blk.cell 6,M7.blk.cell 7,M7.blk.cell 8⟩;refine HJ.out _ _ (fun _=>C7) ?_;clear HJ HS Md hb7' M7;simp only[pS];refine uO rfl rfl C7 (.inl ⟨rfl,fun W hW=>by go_simp;rfl⟩) ?_;simp only[pS];refine uP rfl rfl (fun K HJ=>?_);go_simp;rw[show((mm.pa.size:Int)+mm.lo.size)=((nloc mm:Nat):Int)from by simp[nloc]];refine(snew_any H.out.loc w7).mono ?_;rintro e w8 ⟨rfl,hS8,hb8,-⟩;have hb68:=hb7.trans (hb8.mono hb7.size);have l7:=hb7.size;have l8:=hS8.lt;have M8:=(HM6.out.kb (KB.of_below hb68 lt6) hb68.size).more (S':=Sx w w8) (fun b hb=>⟨hb.1,Nat.lt_of_lt_of_le hb.2 hb68.size⟩) (fun b hb=>⟨hb.2,by have:=hb.1;omega,by have:=hb.1;omega⟩);have C8:w8.cell? ⟨gm,9,none⟩=some (.slice (some ⟨ga,0,none⟩) mm.code.length mm.code.length)∧w8.cell? ⟨gm,5,none⟩=some (.string mm.pa)∧w8.cell? ⟨gm,6,none⟩=some (.string mm.lo)∧w8.cell? ⟨gm,7,none⟩=some (.string mm.re)∧w8.cell? ⟨gm,8,none⟩=some (.slice Ak mm.code.length ck):=⟨by have:=M8.blk.cell 9;rw[L1_len]at this;exact this,M8.blk.cell 5,M8.blk.cell 6,M8.blk.cell 7,M8.blk.cell 8⟩;refine HJ.out _ _ (fun _=>C8) ?_;clear HJ C7;simp only[pS];refine uO rfl rfl C8 (.inl ⟨rfl,fun W hW=>by go_simp;rfl⟩) ?_;simp only[pS];have yk:=prow_cell M8.row.1 (i:=k) (by rw[L1_len];exact hlt);have fk:=M8.row.1.frozen k;have lga:=M8.row.1.lt;have hsz:=HK.out.size;have hga6:=(HM6.out.lt ga HM6.out.row.2).1;have M9:=(M8.lay (k:=k) (g:=w7.heap.size+1) (go:=w7.heap.size) (by rw[L1_at hlt,if_neg (by omega)]) hS8 ⟨⟨by omega,l8⟩,⟨by omega,by omega⟩⟩ ⟨by omega,by omega,by omega⟩ (fun i x e=>by
     obtain⟨-,a1,a2,-⟩:=HM6.out.sets i x e;have:=a1.2;have:=a2.2;omega))
    rw[←HN.out]at M9;have hgs:=uA w8 ⟨ga,k,none⟩ (.pointer (some ⟨w7.heap.size+1,0,none⟩));have HM9:=eh (M9.more (S':=Sx w (w8.setCell ⟨ga,k,none⟩ (.pointer (some ⟨w7.heap.size+1,0,none⟩)))) (fun b hb=>⟨hb.1,by simpa using hb.2⟩) (fun b hb=>⟨hb.2,by have:=hb.1;omega,by have:=hb.1;omega⟩));have HK9:=eh ((HK6.out.trans (KX.of_below hb68 (Nat.le_refl _))).new hgs (fun g e hl=>by cases e;exact absurd hl (by show¬ga<_;omega)));have HI9:=eh (HI6.out.kb (((KX.of_below (X:=fun b=>b=ga) hb68 (Nat.le_refl _)).trans (KX.of_grown hgs (fun g e=>by cases e;rfl))).kb (fun b hb=>by
     have :b<w.heap.size:=hb.elim (fun h=>(H.out.inf.lt b h).1) (fun e=>e▸lgv);have:=HK6.out.size;exact⟨by omega,by omega⟩)) (by simpa using hb68.size))
    clear hgs;refine uP rfl rfl (fun K HJ=>?_);go_simp;refine HJ.out _ _ (fun h=>by cases h) ?_;clear HJ C8;simp only[pS];refine uD (by kernel_rfl) ?_ _;clear yk fk lga M8 M9 hS8;go_wp2;go_roundw
    case rel=>exact⟨k+1,_,_,by omega,by go_num,HM9,HI9,HK9⟩
    case measure=>simp[intOf];omega
  ·have e:k=mm.code.length:=by omega
   subst e;have c9:=HM.out.blk.cell 9;rw[L1_len]at c9;have lmr:=HM.out.blk.lt;have HO:=eh (L1_on Hhsl.out);generalize L1 seen mm.code.length mm.code.length=L0 at*;go_wp2;go_loopg [6] (lvMu L0+1) (fun gk v wr=>∃(L:List (Option Nat)) (ch:Bool),v=.bool ch∧Hid (gk=if ch=true then lvMu L+1 else 0)∧Hid (LvMem wr (Sx w wr) gm gv mi 0 1 mm L gs gw Ak ck ga mm.code.length)∧Hid (LvOn mm seen L)∧Hid (InfoG wr Sv gv p vs)∧Hid (KX (fun b=>b=gm∨b=gv) w wr)∧Hid (ch=false→LvClosed mm seen L))
   case atStart=>exact⟨L0,true,rfl,eh rfl,HM,HO,HI,HK,eh (fun h=>by cases h)⟩
   case round=>
    clear c9 lmr HM HO HI HK;obtain⟨L,ch,rfl,Hgk,HM,HO,HI,HK,HC⟩:=hrel;cases ch with
    |false=>
     have HP:=eh (show WorkPost w Sv gm gv p vs mi mm (.returned (.tuple #[])) wr from⟨rfl,Sx w wr,L,gs,gw,Ak,ck,ga,_,HM.out,by rw[←Hseen.out];exact⟨HO.out.shape,HC.out rfl,HO.out.low⟩,fun b hb=>hb.1,HK.out,HI.out⟩);clear HM HO HI HK HC;go_wp2;go_end0;exact HP.out
    |true=>
     have c9:=HM.out.blk.cell 9;rw[HO.out.shape.len]at c9;have lmr:=HM.out.blk.lt;go_wp2;go_loopw [6,7] (fun cv iv wr=>∃(L':List (Option Nat)) (ch:Bool) (i:Int),cv=.bool ch∧iv=.int .i64 i∧-1≤i∧i<mm.code.length∧Hid (LvMem wr (Sx w wr) gm gv mi 0 1 mm L' gs gw Ak ck ga mm.code.length)∧Hid (LvOn mm seen L')∧Hid (InfoG wr Sv gv p vs)∧Hid (KX (fun b=>b=gm∨b=gv) w wr)∧
      Hid (ch=false→L'=L∧∀j:Nat,i<j→j<mm.code.length→seen.getD j false=true→sub (ahdF mm L j) (lvAt L j))∧Hid (ch=true→lvMu L'<lvMu L)) (fun _ iv _=>(intOf iv+1).toNat)
     case atStart=>exact⟨L,false,_,rfl,rfl,by omega,by omega,HM,HO,HI,HK,eh (fun _=>⟨rfl,fun j h1 h2=>by omega⟩),eh (fun h=>by cases h)⟩
     case round=>
      clear c9 lmr HM HO HI HK HC;obtain⟨L',ch,i,rfl,rfl,hi0,hi1,HM,HO,HI,HK,HF,HT⟩:=hrel
      by_cases hneg:i<0
      ·have hge:¬(0:Int)≤i:=by omega
       have Hi:=eh (show i= -1 by omega);clear hneg hi0;go_wp2;go_roundg (if ch=true then lvMu L'+1 else 0)
       case measure=>
        rw[Hgk.out];cases ch with
        |false=>simp
        |true=>have:=HT.out rfl;simp;exact this
       case rel=>exact⟨L',ch,rfl,eh rfl,HM,HO,HI,HK,eh (fun h=>by
        obtain⟨e,h2⟩:=HF.out h;rw[e];exact fun j hj hs=>h2 j (by have:=Hi.out;omega) hj hs)⟩
      ·obtain⟨j,rfl⟩:∃j:Nat,i=j:=⟨i.toNat,by omega⟩;have hj:j<mm.code.length:=by omega
       have hge:(0:Int)≤j:=by omega
       have c9:=HM.out.blk.cell 9;rw[HO.out.shape.len]at c9;have lmr:=HM.out.blk.lt;have lga:=HM.out.row.1.lt;have yj:=prow_cell HM.out.row.1 (i:=j) (by rw[HO.out.shape.len];exact hj);have hse:=HO.out.shape.seen j hj;clear hneg hi0;cases ho:L'.getD j none with
       |none=>
        rw[ho]at yj hse;have Hse:=eh hse;have Ho:=eh ho;clear ho hse;simp only[Option.isSome_none,Bool.false_eq_true,if_false]at yj;go_upto_region 17 with(fail);go_quiet (fail);rename Nat=>q
        have HMq:=eh ((HM.out.kb (w':=wr.drewN q) (fun b _=>rfl) (Nat.le_refl _)).more (S':=Sx w (wr.drewN q)) (fun b hb=>hb) (fun b hb=>⟨hb.2,by have:=hb.1;omega,by have:=hb.1;omega⟩));have HIq:=eh (HI.out.kb (w':=wr.drewN q) (fun b _=>rfl) (Nat.le_refl _));have HKq:=eh (HK.out.trans (KX.of_below (uC (Below.refl _ wr) q) (Nat.le_refl _)));clear HM HI HK c9 yj lmr lga;generalize wr.drewN q=wq at*;go_wp2;go_roundw
        case rel=>exact⟨L',ch,_,rfl,rfl,by omega,by omega,HMq,HO,HIq,HKq,eh (fun h=>⟨(HF.out h).1,fun i h1 h2 h3=>by
         by_cases e:i=j
         ·subst e;rw[←Hse.out]at h3;cases h3
         ·exact(HF.out h).2 i (by omega) h2 h3⟩),HT⟩
        case measure=>simp[intOf]
       |some x=>
        rw[ho]at yj hse;have hx:L'[j]? =some (some x):=by
         have hl:j<L'.length:=by rw[HO.out.shape.len];exact hj
         rw[List.getD_eq_getElem?_getD,List.getElem?_eq_getElem hl]at ho;rw[List.getElem?_eq_getElem hl];exact congrArg some ho
        have hxl:lvAt L' j=x:=by unfold lvAt;rw[Int.toNat_natCast,ho];rfl
        simp only[Option.isSome_some,if_true]at yj;have Md:=(HM.out.kb (w':=wr.drew) (fun b _=>rfl) (Nat.le_refl _));have HA:=eh (ahead_any Md H.out.loc hcl HO.out.shape.len ((H.out.tz.kx HK.out (fun b hb=>by have:=H.out.lo;rcases hb with e|e<;>omega)).grown (gDrew wr (some ga)) (by show 13≠ga;omega)) hj (H.out.nxt j));have Hse:=eh hse;have Hx:=eh hx;have Hxl:=eh hxl;clear ho hse hx hxl Md;go_upto_region 17 with(fail);refine uE (S:=fun W=>W.cell? ⟨gm,9,none⟩=some (.slice (some ⟨ga,0,none⟩) mm.code.length mm.code.length)∧W.cell? ⟨ga,j,none⟩=some (.pointer (some ⟨gs j,0,none⟩))) (fun _=>true) (by kernel_rfl) ⟨c9,yj⟩ (fun HS=>?_);clear c9 yj
        iterate 18 (refine uO rfl rfl HS (.inl ⟨rfl,fun W hW=>by obtain⟨h0,h1⟩:=hW;go_simp;rfl⟩) ?_;simp only[pS])
        refine uP rfl rfl (fun K HJ=>?_);go_simp;refine HA.out.mono ?_;rintro e w7 ⟨g,go,rfl,hS7,hg1,hg2,hg3,hb7'⟩;have hb7:Below wr.heap.size wr w7:=⟨hb7'.os,hb7'.tape,hb7'.output,hb7'.size,hb7'.block⟩;have ltr:∀b,Sx w wr b∨b=gm→b<wr.heap.size:=fun b hb=>hb.elim (fun h=>h.2) (fun e=>e▸lmr)
        have M7:=HM.out.kb (KB.of_below hb7 ltr) hb7.size;have C7:w7.cell? ⟨gm,9,none⟩=some (.slice (some ⟨ga,0,none⟩) mm.code.length mm.code.length)∧w7.cell? ⟨ga,j,none⟩=some (.pointer (some ⟨gs j,0,none⟩)):=⟨(hb7.cell (p:=⟨gm,9,none⟩) lmr).trans HS.1,(hb7.cell (p:=⟨ga,j,none⟩) lga).trans HS.2⟩;refine HJ.out _ _ (fun _=>C7) ?_;clear HJ HS hb7';simp only[pS];obtain⟨s7,-,q2,q3,q4⟩:=M7.sets j x Hx.out;have lgw:=(M7.lt (gw j) q2).1;have K7:=HK.out.trans (KX.of_below hb7 (Nat.le_refl _));have T7:=H.out.tz.kx K7 (fun b hb=>by have:=H.out.lo;rcases hb with e|e<;>omega);refine uP rfl rfl (fun K HJ=>?_);go_simp;refine(sjoin_any s7 hS7 ⟨q3,lgw⟩ T7).mono ?_;rintro e w8 ⟨he,hS8,hg8⟩;obtain⟨r,hr⟩:∃r,r=decide (x|||ahdF mm L' j≠x):=⟨_,rfl⟩;rw[←hr]at he;subst he;have Hr:=eh hr;clear hr;have C8:w8.cell? ⟨gm,9,none⟩=some (.slice (some ⟨ga,0,none⟩) mm.code.length mm.code.length)∧w8.cell? ⟨ga,j,none⟩=some (.pointer (some ⟨gs j,0,none⟩)):=
         ⟨(World.cell?_of_block (a:=⟨gm,9,none⟩) (hg8.block gm (Nat.lt_of_lt_of_le lmr hb7.size) (fun e=>(M7.lt _ q2).2.1 (Option.some.inj e).symm))).trans C7.1,(World.cell?_of_block (a:=⟨ga,j,none⟩) (hg8.block ga (Nat.lt_of_lt_of_le lga hb7.size) (fun e=>by cases e;omega))).trans C7.2⟩
        refine HJ.out _ _ (fun _=>C8) ?_;clear HJ C7;simp only[pS];refine uO rfl rfl C8 (.inl ⟨rfl,fun W hW=>by go_simp;rfl⟩) ?_;simp only[pS];refine uD (by kernel_rfl) ?_ _;have l78:=hg8.size;have M8:=(M7.up Hx.out hg8 hS8).more (S':=Sx w w8) (fun b hb=>⟨hb.1,Nat.lt_of_lt_of_le hb.2 (Nat.le_trans hb7.size l78)⟩) (fun b hb=>⟨hb.2,by have:=hb.1;omega,by have:=hb.1;omega⟩);have O8:=HO.out.up H.out.loc hj Hse.out.symm;have hgwz:w.heap.size≤gw j:=q2.1;have HK8:=eh (K7.new hg8 (fun g e hl=>by cases e;omega));have HI8:=eh (HI.out.kb (((KX.of_below (X:=fun b=>b=gw j) hb7 (Nat.le_refl _)).trans (KX.of_grown hg8 (fun g e=>by cases e;rfl))).kb (fun b hb=>by
         have :b<w.heap.size:=hb.elim (fun h=>(H.out.inf.lt b h).1) (fun e=>e▸lgv);have:=HK.out.size;exact⟨by omega,by omega⟩)) (Nat.le_trans hb7.size l78))
        have HM8:=eh M8;have HO8:=eh O8;have hjl:j<L'.length:=by rw[HO.out.shape.len];exact hj
        have hso:(L'.getD j none).isSome=true:=by rw[HO.out.shape.seen j hj,←Hse.out];rfl
        have h4096:lvAt L' j<4096:=lt12 H.out.loc (HO.out.shape.lt j);have Hsame:=eh (fun(e:x|||ahdF mm L' j=x)=>lvUp_same (a:=ahdF mm L' j) hjl hso (by rw[Hxl.out];exact e));have Hless:=eh (fun(e:x|||ahdF mm L' j≠x)=>mu_up (a:=ahdF mm L' j) hjl hso (by rw[Hxl.out];exact e) h4096);clear M8 M7 O8 K7 T7 s7 hS7 hS8 hg8 hb7 HM HI HK HA C8 l78 hjl hso h4096 q2 q3 q4 hgwz lgw lga lmr;cases r
        ·have hd:x|||ahdF mm L' j=x:=by simpa using Hr.out
         have e:=Hsame.out hd;rw[e]at HM8 HO8;have Hd:=eh hd;clear hd e;go_wp2;go_roundw
         case rel=>exact⟨L',ch,_,rfl,rfl,by omega,by omega,HM8,HO8,HI8,HK8,eh (fun h=>⟨(HF.out h).1,fun i h1 h2 h3=>by
          by_cases e:i=j
          ·subst e;have eL:=(HF.out h).1;have:=Hd.out;have hxl:=Hxl.out;rw[eL]at this hxl;unfold sub;rw[hxl,Nat.or_comm];exact this
          ·exact(HF.out h).2 i (by omega) h2 h3⟩),HT⟩
         case measure=>simp[intOf]
        ·have hd:x|||ahdF mm L' j≠x:=by simpa using Hr.out
         have e:=Hless.out hd;have Hmu:=eh (show lvMu (lvUp L' j (ahdF mm L' j))<lvMu L by
          cases ch with
          |false=>rw[(HF.out rfl).1]at e⊢;exact e
          |true=>exact Nat.lt_trans e (HT.out rfl))
         clear hd e;go_wp2;go_roundw
         case rel=>exact⟨_,true,_,rfl,rfl,by omega,by omega,HM8,HO8,HI8,HK8,eh (fun h=>by cases h),eh (fun _=>Hmu.out)⟩
         case measure=>simp[intOf]
end Go.Proofs.YtgbgbmdiomhfiaaGreatDoor