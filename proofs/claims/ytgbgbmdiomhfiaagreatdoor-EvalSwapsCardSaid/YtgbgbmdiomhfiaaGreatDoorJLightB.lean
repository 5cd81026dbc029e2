/-
 RegInv, SsaPure, SrLaw, SmLaw, PgLight, LightB, FrameTab.
-/
import Derived.RegionTactic
import Derived.Lib.LaidTab
import Derived.Test.YtgbgbmdiomhfiaaGreatDoorJVr1
import Derived.Test.YtgbgbmdiomhfiaaGreatDoorJPgEff3
import Derived.Test.YtgbgbmdiomhfiaaGreatDoorJSettlePure
import Derived.Test.YtgbgbmdiomhfiaaGreatDoorJMk
set_option linter.unusedSimpArgs false
set_option linter.unusedVariables false
set_option maxHeartbeats 2000000
set_option maxRecDepth 100000
namespace Go.Proofs.YtgbgbmdiomhfiaaGreatDoor
section
variable {P:Program} {ops:Array Oper} {Q:Exit→Act→World→Prop} {md:Region.Mode}
end
end Go.Proofs.YtgbgbmdiomhfiaaGreatDoor
namespace Go.Proofs.YtgbgbmdiomhfiaaGreatDoor
open Go.RowKit Go.Maps
abbrev ndAt(f:Fn)(i:Nat):Nd:=f.nodes.getD i default
abbrev bkAt(f:Fn)(b:Nat):Bk:=f.blocks.getD b default
def allN(b:Bk):List Int:=b.phis++b.body
def Bef(b k b' k':Nat):Prop:=b<b'∨b=b'∧k<k'
def StAt(f:Fn)(blk plc:List Int)(b k:Nat)(n:Int):Prop:=
 0≤n∧n<f.nodes.length∧blk.getD n.toNat 0=b∧plc.getD n.toNat 0=k∧((ndAt f n.toNat).op=41↔k<(bkAt f b).phis.length)
structure Noted(f:Fn)(blk plc:List Int)(B K:Nat):Prop where
 l1:blk.length=f.nodes.length
 l2:plc.length=f.nodes.length
 at_:∀(b k:Nat) (n:Int),b<f.blocks.length→Bef b k B K→(allN (bkAt f b))[k]? =some n→StAt f blk plc b k n
 each:∀i,i<f.nodes.length→blk.getD i 0= -1∨∃b k:Nat,b<f.blocks.length∧Bef b k B K∧(allN (bkAt f b))[k]? =some (i:Int)
structure Stands(f:Fn)(blk plc:List Int):Prop where
 l1:blk.length=f.nodes.length
 l2:plc.length=f.nodes.length
 at_:∀(b k:Nat) (n:Int),b<f.blocks.length→(allN (bkAt f b))[k]? =some n→StAt f blk plc b k n
 each:∀i,i<f.nodes.length→∃b k:Nat,b<f.blocks.length∧(allN (bkAt f b))[k]? =some (i:Int)
def standOk(f:Fn):Prop:=∃blk plc,Stands f blk plc
section
variable {f:Fn} {blk plc blk' plc':List Int} {B K:Nat} {n:Int}
theorem getD_setI(l:List Int)(i j:Nat)(v:Int)(h:i<l.length):(l.set i v).getD j 0=if j=i then v else l.getD j 0:=by
 by_cases e:j=i
 ·subst e;simp[h]
 ·have e':¬i=j:=fun h=>e h.symm
  simp[e,e']
theorem Noted.start:Noted f (List.replicate f.nodes.length (-1)) (List.replicate f.nodes.length 0) 0 0:=by
 refine⟨by simp,by simp,fun b k n _ h=>?_,fun i hi=>.inl ?_⟩
 ·unfold Bef at h;omega
 ·simp[List.getD_eq_getElem?_getD,hi]
theorem Noted.range(H:Noted f blk plc B K){i:Nat}(hi:i<f.nodes.length):blk.getD i 0= -1∨0≤blk.getD i 0:=by
 rcases H.each i hi with h|⟨b,k,h1,h2,h3⟩
 ·exact .inl h
 ·have:=(H.at_ b k i h1 h2 h3).2.2.1;simp only[Int.toNat_natCast]at this;right;omega
theorem Noted.step(H:Noted f blk plc B K)(hB:B<f.blocks.length)(hn:(allN (bkAt f B))[K]? =some n)(h0:0≤n)(h1:n<f.nodes.length)(hb:blk.getD n.toNat 0= -1)
 (hp:(ndAt f n.toNat).op=41↔K<(bkAt f B).phis.length):Noted f (blk.set n.toNat B) (plc.set n.toNat K) B (K+1):=by
 have hl1:n.toNat<blk.length:=by rw[H.l1];omega
 have hl2:n.toNat<plc.length:=by rw[H.l2];omega
 refine⟨by simp[H.l1],by simp[H.l2],fun b k m hbl hbe hm=>?_,fun i hi=>?_⟩
 ·by_cases he:Bef b k B K
  ·have hs:=H.at_ b k m hbl he hm;obtain⟨a1,a2,a3,a4,a5⟩:=hs;have hne:m.toNat≠n.toNat:=fun e=>by rw[e,hb]at a3;omega
   exact⟨a1,a2,by rw[getD_setI _ _ _ _ hl1,if_neg hne];exact a3,by rw[getD_setI _ _ _ _ hl2,if_neg hne];exact a4,a5⟩
  ·obtain⟨rfl,rfl⟩:b=B∧k=K:=by unfold Bef at*;omega
   rw[hn]at hm;cases hm;exact⟨h0,h1,by rw[getD_setI _ _ _ _ hl1,if_pos rfl],by rw[getD_setI _ _ _ _ hl2,if_pos rfl],hp⟩
 ·by_cases e:i=n.toNat
  ·right;refine⟨B,K,hB,.inr ⟨rfl,by omega⟩,?_⟩;rw[hn];congr 1;omega
  ·rw[getD_setI _ _ _ _ hl1,if_neg e];rcases H.each i hi with h|⟨b,k,c1,c2,c3⟩
   ·exact .inl h
   ·exact .inr ⟨b,k,c1,by unfold Bef at*;omega,c3⟩
theorem Noted.next(H:Noted f blk plc B K)(hK:(allN (bkAt f B)).length≤K):Noted f blk plc (B+1) 0:=by
 refine⟨H.l1,H.l2,fun b k n hb he hn=>H.at_ b k n hb ?_ hn,fun i hi=>?_⟩
 ·have hk:=(List.getElem?_eq_some_iff.1 hn).1
  by_cases e:b=B
  ·subst e;right;exact⟨rfl,by omega⟩
  ·left;unfold Bef at he;omega
 ·rcases H.each i hi with h|⟨b,k,c1,c2,c3⟩
  ·exact .inl h
  ·exact .inr ⟨b,k,c1,by unfold Bef at*;omega,c3⟩
theorem Noted.bad(H:Noted f blk plc B K)(hB:B<f.blocks.length)(hn:(allN (bkAt f B))[K]? =some n)
 (h:¬(0≤n∧n<f.nodes.length)∨0≤blk.getD n.toNat 0∨¬((ndAt f n.toNat).op=41↔K<(bkAt f B).phis.length)):¬standOk f:=by
 rintro⟨b1,p1,S⟩;obtain⟨a1,a2,a3,a4,a5⟩:=S.at_ B K n hB hn;rcases h with h|h|h
 ·exact h ⟨a1,a2⟩
 ·rcases H.each n.toNat (by omega)with e|⟨b,k,c1,c2,c3⟩
  ·omega
  ·rw[show((n.toNat:Nat):Int)=n by omega]at c3;obtain⟨d1,d2,d3,d4,d5⟩:=S.at_ b k n c1 c3;unfold Bef at c2;omega
 ·exact h a5
theorem Noted.done(H:Noted f blk plc B 0)(hB:f.blocks.length≤B)(h:∀i,i<f.nodes.length→blk.getD i 0≠-1):Stands f blk plc:=by
 refine⟨H.l1,H.l2,fun b k n hb hn=>H.at_ b k n hb (.inl (by omega)) hn,fun i hi=>?_⟩;rcases H.each i hi with e|⟨b,k,c1,_,c3⟩
 ·exact absurd e (h i hi)
 ·exact⟨b,k,c1,c3⟩
theorem Noted.left(H:Noted f blk plc B 0)(hB:f.blocks.length≤B){i:Nat}(hi:i<f.nodes.length)(h:blk.getD i 0= -1):¬standOk f:=by
 rintro⟨b1,p1,S⟩;obtain⟨b,k,c1,c3⟩:=S.each i hi;have:=(H.at_ b k i c1 (.inl (by omega)) c3).2.2.1;simp only[Int.toNat_natCast]at this;omega
theorem Stands.uniq(S:Stands f blk plc)(S':Stands f blk' plc'):blk=blk'∧plc=plc':=by
 have key:∀i,i<f.nodes.length→blk.getD i 0=blk'.getD i 0∧plc.getD i 0=plc'.getD i 0:=fun i hi=>by
  obtain⟨b,k,c1,c3⟩:=S.each i hi;obtain⟨_,_,a3,a4,_⟩:=S.at_ b k i c1 c3;obtain⟨_,_,b3,b4,_⟩:=S'.at_ b k i c1 c3;simp only[Int.toNat_natCast]at*;exact⟨a3.trans b3.symm,a4.trans b4.symm⟩
 have ext:∀(l l':List Int),l.length=f.nodes.length→l'.length=f.nodes.length→(∀i,i<f.nodes.length→l.getD i 0=l'.getD i 0)→l=l':=fun l l' h1 h2 h=>by
  refine List.ext_getElem (by omega) fun i hi hi'=>?_
  have:=h i (by omega);simpa[List.getD_eq_getElem?_getD,hi,hi']using this
 exact⟨ext _ _ S.l1 S'.l1 fun i hi=>(key i hi).1,ext _ _ S.l2 S'.l2 fun i hi=>(key i hi).2⟩
theorem Stands.blk_at(S:Stands f blk plc){i:Nat}(hi:i<f.nodes.length):∃b k:Nat,b<f.blocks.length∧(allN (bkAt f b))[k]? =some (i:Int)∧blk.getD i 0=b∧plc.getD i 0=k∧((ndAt f i).op=41↔k<(bkAt f b).phis.length):=by
 obtain⟨b,k,c1,c3⟩:=S.each i hi;obtain⟨_,_,a3,a4,a5⟩:=S.at_ b k i c1 c3;simp only[Int.toNat_natCast]at*;exact⟨b,k,c1,c3,a3,a4,a5⟩
end
def endsF(op:Int):Option Nat:=if op=47 then some 0 else if op=45 then some 1 else if op=46 then some 2 else none
def endAt(f:Fn)(b:Bk)(k:Nat)(n:Int):Prop:=if k+1=b.body.length then endsF (ndAt f n.toNat).op=some b.succ.length else endsF (ndAt f n.toNat).op=none
structure BodyOk(f:Fn)(b:Bk):Prop where
 ne:b.body≠[]
 ends:∀(k:Nat) (n:Int),b.body[k]? =some n→endAt f b k n
structure SuccOk(f:Fn)(b:Bk):Prop where
 rng:∀s∈b.succ,0≤s∧s<f.blocks.length
 nodup:b.succ.Nodup
def grF(f:Fn):List (List Int):=f.blocks.map (·.succ)
def pdsTo(f:Fn)(B:Nat)(s:Nat):List Int:=((List.range B).filter fun b=>decide ((s:Int)∈(bkAt f b).succ)).map Int.ofNat
def pdsAt(f:Fn)(B i s:Nat):List Int:=pdsTo f B s++if(s:Int)∈(bkAt f B).succ.take i then[(B:Int)]else[]
structure BlocksOk(f:Fn):Prop where
 body:∀b,b<f.blocks.length→BodyOk f (bkAt f b)
 succ:∀b,b<f.blocks.length→SuccOk f (bkAt f b)
 preds:∀b,b<f.blocks.length→(bkAt f b).preds=pdsTo f f.blocks.length b
 reach:∀b,b<f.blocks.length→Reach (EI (grF f)) b
 root:(bkAt f 0).preds=[]∧(bkAt f 0).phis=[]
section
variable {f:Fn} {B i s:Nat}
theorem pdsAt_zero:pdsAt f B 0 s=pdsTo f B s:=by simp[pdsAt]
theorem pdsTo_zero:pdsTo f 0 s=[]:=rfl
theorem pdsTo_next:pdsTo f (B+1) s=pdsAt f B (bkAt f B).succ.length s:=by
 unfold pdsAt pdsTo;rw[List.range_succ,List.filter_append,List.map_append,List.take_length];congr 1
 by_cases h:(s:Int)∈(f.blocks.getD B default).succ<;>simp at h<;>simp[h]
theorem pdsTo_mem{b:Int}:b∈pdsTo f B s↔0≤b∧b<B∧(s:Int)∈(bkAt f b.toNat).succ:=by
 simp only[pdsTo,List.mem_map,List.mem_filter,List.mem_range,decide_eq_true_eq];constructor
 ·rintro⟨x,⟨h1,h2⟩,rfl⟩;exact⟨by simp,by simpa using h1,by simpa using h2⟩
 ·rintro⟨h1,h2,h3⟩;exact⟨b.toNat,⟨by omega,h3⟩,by simp;omega⟩
theorem pdsAt_mem:(B:Int)∈pdsAt f B i s↔(s:Int)∈(bkAt f B).succ.take i:=by
 unfold pdsAt;rw[List.mem_append,pdsTo_mem];constructor
 ·rintro(h|h)
  ·omega
  ·split at h
   ·assumption
   ·cases h
 ·intro h;right;rw[if_pos h];simp
theorem pdsAt_other{k:Int}(hk:(bkAt f B).succ[i]? =some k)(hne:(s:Int)≠k):pdsAt f B (i+1) s=pdsAt f B i s:=by
 unfold pdsAt;have e:((s:Int)∈(bkAt f B).succ.take (i+1))↔(s:Int)∈(bkAt f B).succ.take i:=by
  rw[List.take_add_one,hk,List.mem_append];simp[hne]
 simp only[e]
theorem pdsAt_same{k:Int}(hk:(bkAt f B).succ[i]? =some k)(he:(s:Int)=k)(hn:k∉(bkAt f B).succ.take i):pdsAt f B (i+1) s=pdsAt f B i s++[(B:Int)]:=by
 unfold pdsAt;have e:(s:Int)∈(bkAt f B).succ.take (i+1):=by
  rw[List.take_add_one,hk,List.mem_append];right;simp[he]
 rw[if_pos e,if_neg (by rw[he];exact hn)];simp
theorem nodup_not{l:List Int}{i:Nat}{k:Int}(hk:l[i]? =some k)(h:k∈l.take i):¬l.Nodup:=by
 intro hn;have hi:=(List.getElem?_eq_some_iff.1 hk);obtain⟨hil,rfl⟩:=hi;obtain⟨j,hj,e⟩:=List.getElem_of_mem h;rw[List.length_take]at hj;rw[List.getElem_take]at e;have:=(List.nodup_iff_pairwise_ne.1 hn);rw[List.pairwise_iff_getElem]at this;exact this j i (by omega) hil (by omega) e
theorem nodup_of_takes{l:List Int}(h:∀i k,l[i]? =some k→k∉l.take i):l.Nodup:=by
 rw[List.nodup_iff_pairwise_ne,List.pairwise_iff_getElem];intro i j hi hj hij e;refine h j (l[j]) (List.getElem?_eq_getElem hj) ?_;rw[←e];exact List.mem_iff_getElem.2 ⟨i,by rw[List.length_take];omega,by rw[List.getElem_take]⟩
end
structure Form where
 kind:ByteArray
 args:ByteArray
 a:Bool
 b:Bool
 n:Bool
 st:Bool
def repB(s:ByteArray):Nat→ByteArray
 |0=>sE
 |n+1=>repB s n++s
def paramF(p:Prg)(f:Fn)(blk:List Int)(i:Nat):Option Form:=
 if blk.getD i 0≠0∨inB (ndAt f i).a ((methodF p f.mth).pa++(methodF p f.mth).lo).size=false∨(f.entry=0∧(methodF p f.mth).pa.size≤(ndAt f i).a)then none
 else if∃k,k<i∧(ndAt f k).op=40∧(ndAt f k).a=(ndAt f i).a then none
 else some ⟨atB ((methodF p f.mth).pa++(methodF p f.mth).lo) (ndAt f i).a,sE,true,false,false,false⟩
def formF(p:Prg)(f:Fn)(blk:List Int)(i:Nat):Option Form:=
 if(ndAt f i).op=1 then some ⟨sI,sE,false,false,true,false⟩
 else if(ndAt f i).op=2 then some ⟨sR,sE,false,false,false,false⟩
 else if(ndAt f i).op=18 then some ⟨sI,sI,false,false,false,false⟩
 else if(ndAt f i).op=21 then some ⟨sI,sRR,false,false,false,false⟩
 else if(ndAt f i).op=24 then(if inB (ndAt f i).a p.classes.length=true then some ⟨sR,sE,true,false,false,true⟩else none)
 else if(ndAt f i).op=27 then(if inB (ndAt f i).a p.classes.length=true then some ⟨sI,sR,true,false,false,false⟩else none)
 else if(ndAt f i).op=25 then(if inB (ndAt f i).a p.classes.length=true∧inB (ndAt f i).b (p.classes.getD (ndAt f i).a.toNat ⟨#[]⟩).size=true then some ⟨fieldF p (ndAt f i).a (ndAt f i).b,sR,true,true,false,true⟩else none)
 else if(ndAt f i).op=26 then(if inB (ndAt f i).a p.classes.length=true∧inB (ndAt f i).b (p.classes.getD (ndAt f i).a.toNat ⟨#[]⟩).size=true then some ⟨sE,sR++fieldF p (ndAt f i).a (ndAt f i).b,true,true,false,true⟩else none)
 else if(ndAt f i).op=28 then(if inB (ndAt f i).a 2=true then some ⟨sR,sI,true,false,false,true⟩else none)
 else if(ndAt f i).op=29 then(if inB (ndAt f i).a 2=true then some ⟨atB sIRs (ndAt f i).a,sRI,true,false,false,true⟩else none)
 else if(ndAt f i).op=30 then(if inB (ndAt f i).a 2=true then some ⟨sE,sRI++atB sIRs (ndAt f i).a,true,false,false,true⟩else none)
 else if(ndAt f i).op=31 then some ⟨sI,sR,false,false,false,true⟩
 else if(ndAt f i).op=32 then(if 1≤(ndAt f i).a∧(ndAt f i).a<p.methods.length then some ⟨(methodF p (ndAt f i).a).re,(methodF p (ndAt f i).a).pa,true,false,false,true⟩else none)
 else if(ndAt f i).op=34 then some ⟨sI,sE,false,false,false,true⟩
 else if(ndAt f i).op=35∨(ndAt f i).op=46 then some ⟨sE,sI,false,false,false,false⟩
 else if(ndAt f i).op=42∨(ndAt f i).op=43 then some ⟨sE,sE,false,false,false,true⟩
 else if(ndAt f i).op=44 then(if(ndAt f i).n=0∨(ndAt f i).n=1 then some ⟨sE,sI,false,false,true,true⟩else none)
 else if(ndAt f i).op=45 then some ⟨sE,sE,false,false,false,false⟩
 else if(ndAt f i).op=47 then some ⟨sE,(methodF p f.mth).re,false,false,false,false⟩
 else if(ndAt f i).op=40 then paramF p f blk i
 else if(ndAt f i).op=41 then(if(ndAt f i).kind=sI∨(ndAt f i).kind=sR then some ⟨(ndAt f i).kind,repB (ndAt f i).kind (bkAt f (blk.getD i 0).toNat).preds.length,false,false,false,false⟩else none)
 else if 8≤(ndAt f i).op∧(ndAt f i).op≤20 then some ⟨sI,sII,false,false,false,decide ((ndAt f i).op=11∨(ndAt f i).op=12)⟩
 else none
def argOk(f:Fn)(fm:Form)(k:Nat)(a:Int):Prop:=0≤a∧a<f.nodes.length∧(ndAt f a.toNat).kind=fm.args.extract k (k+1)
structure FormOk(f:Fn)(x:Nd)(fm:Form):Prop where
 kind:x.kind=fm.kind
 len:x.args.length=fm.args.size
 a:fm.a=false→x.a=0
 b:fm.b=false→x.b=0
 n:fm.n=false→x.n=0
 st:if fm.st=true then inB x.st f.states.length=true else x.st= -1
 args:∀(k:Nat) (a:Int),x.args[k]? =some a→argOk f fm k a
def nodeOk(p:Prg)(f:Fn)(blk:List Int)(i:Nat):Prop:=∃fm,formF p f blk i=some fm∧FormOk f (ndAt f i) fm
def nodesOk(p:Prg)(f:Fn)(blk:List Int):Prop:=∀i,i<f.nodes.length→nodeOk p f blk i
def abvN(f:Fn)(blk plc:List Int)(a n:Nat):Prop:=if blk.getD a 0=blk.getD n 0 then plc.getD a 0<plc.getD n 0 else Dm (EI (grF f)) (blk.getD a 0).toNat (blk.getD n 0).toNat
def argAbv(f:Fn)(blk plc:List Int)(i k:Nat)(a:Int):Prop:=
 if(ndAt f i).op=41 then Dm (EI (grF f)) (blk.getD a.toNat 0).toNat ((bkAt f (blk.getD i 0).toNat).preds.getD k 0).toNat else abvN f blk plc a.toNat i
def standsOk(f:Fn)(blk plc:List Int):Prop:=∀i,i<f.nodes.length→∀(k:Nat) (a:Int),(ndAt f i).args[k]? =some a→argAbv f blk plc i k a
def coreOk(p:Prg)(f:Fn):Prop:=∃blk plc,Stands f blk plc∧BlocksOk f∧nodesOk p f blk∧standsOk f blk plc
theorem core_iff{p:Prg}{f:Fn}{blk plc:List Int}(S:Stands f blk plc):coreOk p f↔BlocksOk f∧nodesOk p f blk∧standsOk f blk plc:=by
 constructor
 ·rintro⟨b,q,h,h1,h2,h3⟩;obtain⟨rfl,rfl⟩:=S.uniq h;exact⟨h1,h2,h3⟩
 ·rintro⟨h1,h2,h3⟩;exact⟨blk,plc,S,h1,h2,h3⟩
theorem mapr_at{α:Type}{g:Nat→α}{n i:Nat}{d:α}(h:i<n):((List.range n).map g).getD i d=g i:=by simp[List.getD_eq_getElem?_getD,h]
theorem mapr_some{α:Type}{g:Nat→α}{n i:Nat}{x:α}(h:((List.range n).map g)[i]? =some x):i<n∧x=g i:=by
 have hi:=(List.getElem?_eq_some_iff.1 h).1;simp at hi;simp[hi]at h;exact⟨hi,h.symm⟩
def aOf(i:Nat)(x:Int):Int:=(x.tmod (i+3)+i+3).tmod (i+3)-1
theorem aOf_rng(i:Nat)(x:Int): -1≤aOf i x∧aOf i x≤i+1:=by
 unfold aOf;have hm:(0:Int)<i+3:=by omega
 have h1:=Int.lt_tmod_of_pos x hm;generalize x.tmod ((i:Int)+3)=r at*;have h2:0≤r+i+3:=by omega
 rw[Int.tmod_eq_emod_of_nonneg h2];have h3:=Int.emod_nonneg (r+i+3) (show(i:Int)+3≠0 by omega);have h4:=Int.emod_lt_of_pos (r+i+3) hm;omega
def rowNd(l:List Int)(n:Int)(i:Nat):Nd:=
 if i=0 then⟨1,0,0,-1,sI,n,[]⟩else if i≤l.length then⟨8+((i-1)%3:Nat),0,0,-1,sI,0,[aOf (i-1) (l.getD (i-1) 0),((i-1:Nat):Int)]⟩else⟨47,0,0,-1,sE,0,[(l.length:Int)]⟩
def rowFn(l:List Int)(n:Int):Fn:=⟨0,0,(List.range (l.length+2)).map (rowNd l n),[⟨[],(List.range (l.length+2)).map Int.ofNat,[],[]⟩],[]⟩
def rowFair(l:List Int):Prop:=∀i,i<l.length→0≤aOf i (l.getD i 0)∧aOf i (l.getD i 0)≤i
def oneP:Prg:=⟨[],[⟨sE,sE,sI,[⟨1,0,0,1⟩,⟨33,0,0,0⟩]⟩]⟩
section
variable (l:List Int) (n:Int)
theorem row_nd{i:Nat}(h:i<l.length+2):ndAt (rowFn l n) i=rowNd l n i:=mapr_at h
theorem row_bk:bkAt (rowFn l n) 0=⟨[],(List.range (l.length+2)).map Int.ofNat,[],[]⟩:=rfl
theorem row_len:(rowFn l n).nodes.length=l.length+2:=by simp[rowFn]
theorem row_op(i:Nat):(rowNd l n i).op=1∨((rowNd l n i).op=8∨(rowNd l n i).op=9∨(rowNd l n i).op=10)∨(rowNd l n i).op=47:=by
 unfold rowNd
 by_cases h0:i=0
 ·rw[if_pos h0];exact .inl rfl
 ·rw[if_neg h0]
  by_cases h1:i≤l.length
  ·rw[if_pos h1];right;left;have :(i-1)%3=0∨(i-1)%3=1∨(i-1)%3=2:=by omega
   rcases this with h|h|h<;>simp[h]
  ·rw[if_neg h1];exact .inr (.inr rfl)
theorem row_last{i:Nat}(h:i<l.length+2):(rowNd l n i).op=47↔i=l.length+1:=by
 unfold rowNd
 by_cases h0:i=0
 ·rw[if_pos h0];constructor
  ·intro h;cases h
  ·omega
 ·rw[if_neg h0]
  by_cases h1:i≤l.length
  ·rw[if_pos h1];constructor
   ·intro h;simp only at h;omega
   ·omega
  ·rw[if_neg h1];constructor
   ·intro _;omega
   ·intro _;rfl
theorem row_stands:Stands (rowFn l n) (List.replicate (l.length+2) 0) ((List.range (l.length+2)).map Int.ofNat):=by
 refine⟨by simp[rowFn],by simp[rowFn],fun b k m hb hm=>?_,fun i hi=>?_⟩
 ·obtain rfl:b=0:=by simp[rowFn]at hb;omega
  rw[row_bk]at hm;obtain⟨hk,rfl⟩:=mapr_some (show((List.range (l.length+2)).map Int.ofNat)[k]? =some m by simpa[allN]using hm);refine⟨by simp,by rw[row_len];simp;omega,by simp[List.getD_eq_getElem?_getD,hk],by simp[List.getD_eq_getElem?_getD,hk],?_⟩;rw[row_bk];simp only[Int.ofNat_eq_natCast,Int.toNat_natCast,List.length_nil,Nat.not_lt_zero,iff_false];rw[row_nd l n hk];rcases row_op l n k with h|h|h<;>omega
 ·rw[row_len]at hi;exact⟨0,i,by simp[rowFn],by rw[row_bk];simp[allN,hi]⟩
theorem row_blocks:BlocksOk (rowFn l n):=by
 have one:∀b,b<(rowFn l n).blocks.length→b=0:=fun b hb=>by simp[rowFn]at hb;omega
 refine⟨fun b hb=>?_,fun b hb=>?_,fun b hb=>?_,fun b hb=>?_,?_⟩
 ·obtain rfl:=one b hb;rw[row_bk];refine⟨by simp,fun k m hm=>?_⟩;obtain⟨hk,rfl⟩:=mapr_some hm;unfold endAt;simp only[List.length_map,List.length_range,Int.ofNat_eq_natCast,Int.toNat_natCast,List.length_nil];rw[row_nd l n hk]
  by_cases e:k+1=l.length+2
  ·rw[if_pos e,(row_last l n hk).2 (by omega)];rfl
  ·rw[if_neg e];have h2:(rowNd l n k).op≠47:=fun h=>by have:=(row_last l n hk).1 h;omega
   unfold endsF;rw[if_neg h2];rcases row_op l n k with h|h|h
   ·rw[if_neg (by omega),if_neg (by omega)]
   ·rw[if_neg (by omega),if_neg (by omega)]
   ·exact absurd h h2
 ·obtain rfl:=one b hb;exact⟨fun s hs=>(by rw[row_bk]at hs;cases hs),(by rw[row_bk];exact List.nodup_nil)⟩
 ·obtain rfl:=one b hb;rw[row_bk];rfl
 ·obtain rfl:=one b hb;exact .zero
 ·rw[row_bk];exact⟨rfl,rfl⟩
theorem row_kind{i:Nat}(h:i<l.length+1):(rowNd l n i).kind=sI:=by
 unfold rowNd
 by_cases h0:i=0
 ·rw[if_pos h0]
 ·rw[if_neg h0,if_pos (by omega)]
theorem form_sum{p:Prg}{f:Fn}{blk:List Int}{i:Nat}(h:(ndAt f i).op=8∨(ndAt f i).op=9∨(ndAt f i).op=10):formF p f blk i=some ⟨sI,sII,false,false,false,false⟩:=by
 unfold formF;rcases h with h|h|h<;>rw[h]<;>rfl
theorem row_nodes:nodesOk oneP (rowFn l n) (List.replicate (l.length+2) 0)↔∀i,i<l.length→0≤aOf i (l.getD i 0):=by
 constructor
 ·intro h i hi;obtain⟨fm,h1,h2⟩:=h (i+1) (by rw[row_len];omega);have hnd:=row_nd l n (show i+1<l.length+2 by omega);have ha:(ndAt (rowFn l n) (i+1)).args[0]? =some (aOf i (l.getD i 0)):=by
   rw[hnd];unfold rowNd;rw[if_neg (by omega),if_pos (by omega)];rfl
  exact(h2.args 0 _ ha).1
 ·intro h i hi;rw[row_len]at hi;have hnd:=row_nd l n hi;have argI:∀(a:Int) (fm:Form) (k:Nat),0≤a→a≤l.length→fm.args.extract k (k+1)=sI→argOk (rowFn l n) fm k a:=fun a fm k h0 h1 he=>by
   refine⟨h0,by rw[row_len];omega,?_⟩;rw[row_nd l n (by omega),row_kind l n (by omega),he]
  by_cases h0:i=0
  ·have e:rowNd l n i=⟨1,0,0,-1,sI,n,[]⟩:=by unfold rowNd;rw[if_pos h0]
   refine⟨⟨sI,sE,false,false,true,false⟩,by unfold formF;rw[hnd,e];rfl,?_⟩;rw[hnd,e];exact⟨rfl,rfl,fun _=>rfl,fun _=>rfl,fun h=>(by cases h),by simp,fun k a h=>by simp at h⟩
  ·by_cases h1:i≤l.length
   ·have e:rowNd l n i=⟨8+((i-1)%3:Nat),0,0,-1,sI,0,[aOf (i-1) (l.getD (i-1) 0),((i-1:Nat):Int)]⟩:=by unfold rowNd;rw[if_neg h0,if_pos h1]
    refine⟨⟨sI,sII,false,false,false,false⟩,form_sum (by rw[hnd,e];show(8:Int)+_=8∨(8:Int)+_=9∨(8:Int)+_=10;omega),?_⟩;rw[hnd,e];refine⟨rfl,rfl,fun _=>rfl,fun _=>rfl,fun _=>rfl,by simp,fun k a h'=>?_⟩
    match k,h' with
    |0,h'=>
     cases h';have:=aOf_rng (i-1) (l.getD (i-1) 0);exact argI _ _ _ (h (i-1) (by omega)) (by omega) (by decide)
    |1,h'=>
     cases h';exact argI _ _ _ (by omega) (by omega) (by decide)
    |k+2,h'=>simp at h'
   ·have e:rowNd l n i=⟨47,0,0,-1,sE,0,[(l.length:Int)]⟩:=by unfold rowNd;rw[if_neg h0,if_neg h1]
    refine⟨⟨sE,sI,false,false,false,false⟩,by unfold formF;rw[hnd,e];rfl,?_⟩;rw[hnd,e];refine⟨rfl,rfl,fun _=>rfl,fun _=>rfl,fun _=>rfl,by simp,fun k a h'=>?_⟩
    match k,h' with
    |0,h'=>
     cases h';exact argI _ _ _ (by omega) (by omega) (by decide)
    |k+1,h'=>simp at h'
theorem rep0(k i:Nat):(List.replicate k (0:Int)).getD i 0=0:=by
 simp only[List.getD_eq_getElem?_getD,List.getElem?_replicate];split<;>rfl
theorem row_abv(hn:∀i,i<l.length→0≤aOf i (l.getD i 0)):standsOk (rowFn l n) (List.replicate (l.length+2) 0) ((List.range (l.length+2)).map Int.ofNat)↔∀i,i<l.length→aOf i (l.getD i 0)≤i:=by
 have key:∀(i k:Nat) (a:Int),i<l.length+2→0≤a→a<l.length+2→(argAbv (rowFn l n) (List.replicate (l.length+2) 0) ((List.range (l.length+2)).map Int.ofNat) i k a↔a<i):=fun i k a hi h0 h1=>by
  unfold argAbv abvN;rw[row_nd l n hi];rw[if_neg (by rcases row_op l n i with h|h|h<;>omega),rep0,rep0,if_pos rfl,mapr_at (show a.toNat<_ by omega),mapr_at hi];simp only[Int.ofNat_eq_natCast];omega
 constructor
 ·intro h i hi;have ha:(ndAt (rowFn l n) (i+1)).args[0]? =some (aOf i (l.getD i 0)):=by
   rw[row_nd l n (by omega)];unfold rowNd;rw[if_neg (by omega),if_pos (by omega)];rfl
  have:=aOf_rng i (l.getD i 0);have:=(key (i+1) 0 _ (by omega) (hn i hi) (by omega)).1 (h (i+1) (by rw[row_len];omega) 0 _ ha);omega
 ·intro h i hi k a ha;rw[row_len]at hi;rw[row_nd l n hi]at ha;unfold rowNd at ha
  by_cases h0:i=0
  ·rw[if_pos h0]at ha;simp at ha
  ·rw[if_neg h0]at ha
   by_cases h1:i≤l.length
   ·rw[if_pos h1]at ha;have:=aOf_rng (i-1) (l.getD (i-1) 0);have h3:=hn (i-1) (by omega);have h4:=h (i-1) (by omega)
    match k,ha with
    |0,ha=>
     simp only[List.getElem?_cons_zero,Option.some.injEq]at ha;rw[←ha];exact(key i 0 _ hi h3 (by omega)).2 (by omega)
    |1,ha=>
     simp only[List.getElem?_cons_succ,List.getElem?_cons_zero,Option.some.injEq]at ha;exact(key i 1 _ hi (by omega) (by omega)).2 (by omega)
    |k+2,ha=>simp at ha
   ·rw[if_neg h1]at ha
    match k,ha with
    |0,ha=>
     simp only[List.getElem?_cons_zero,Option.some.injEq]at ha;exact(key i 0 _ hi (by omega) (by omega)).2 (by omega)
    |k+1,ha=>simp at ha
theorem row_core:coreOk oneP (rowFn l n)↔rowFair l:=by
 rw[core_iff (row_stands l n)];constructor
 ·rintro⟨_,h2,h3⟩;have h4:=(row_nodes l n).1 h2;exact fun i hi=>⟨h4 i hi,(row_abv l n h4).1 h3 i hi⟩
 ·intro h;have h4:∀i,i<l.length→0≤aOf i (l.getD i 0):=fun i hi=>(h i hi).1
  exact⟨row_blocks l n,(row_nodes l n).2 h4,(row_abv l n h4).2 (fun i hi=>(h i hi).2)⟩
end
theorem not_avoid_zero{E:Nat→Nat→Prop}{k:Nat}(h:Avoid E 0 k):False:=by
 induction h with
 |zero h=>exact h rfl
 |step _ _ _ ih=>exact ih
section
variable (a b:Int) (turned:Bool)
end
structure LightP(p:Prg):Prop where
 cl:p.classes.length≤20
 ms:p.methods.length≤20
 fs:∀k,k<p.classes.length→(p.classes.getD k ⟨#[]⟩).size≤30
 m:∀k,k<p.methods.length→(p.methods.getD k default).pa.size≤30∧(p.methods.getD k default).lo.size≤30∧(p.methods.getD k default).re.size≤30∧(p.methods.getD k default).code.length≤140
def IsB(b:Bool)(P:Prop):Prop:=b=true↔P
def LightPost(w:World)(p:Prg)(e:Ending)(w':World):Prop:=∃b,e=.returned (.bool b)∧(b=true↔LightP p)∧Below w.heap.size w w'
theorem light_is(Ac Am:Option Addr)(cc cm:Nat)(p:Prg)(w:World)(hr:RdP w w.heap.size Ac Am p)(hp:POk p):
 Calls Tryz.prog 19 #[pv Ac cc Am cm p] w (LightPost w p):=by
 have hcl:=hp.cl;have hms:=hp.ms;have hPP:∀(b:Bool) (w':World),(b=true↔LightP p)→Below w.heap.size w w'→LightPost w p (.returned (.bool b)) w':=fun b w' h1 h=>⟨b,rfl,h1,h⟩
 have HP:=eh hPP;clear hPP;have hP:=Blk.new w 31 #[.slice Ac p.classes.length cc,.slice Am p.methods.length cm];have hw2:=(Below.refl w.heap.size w).alloc (Nat.le_refl _) (.cells #[.slice Ac p.classes.length cc,.slice Am p.methods.length cm] 31);generalize LightPost w p=Post at*;go_enter Tryz.func19,Tryz.ntmps19;go_upto_region 1 with(fail);generalize w.alloc (.cells #[.slice Ac p.classes.length cc,.slice Am p.methods.length cm] 31)=w2 at*;have p0:=hP.at0;have p1:=hP.at1;have hPl:=hP.lt;have hr2:=hr.below hw2 (Nat.le_refl _);go_cut [15]from 6 to 15 (fun v wx=>∃b:Bool,v=.bool b∧Hid (IsB b (20<p.classes.length∨20<p.methods.length))∧w2=wx)
 case first=>
  by_cases h1:20<p.classes.length
  ·have Hb:=eh (show IsB true (20<p.classes.length∨20<p.methods.length) by simp[IsB,h1]);have g1:decide ((20:Int)<p.classes.length)=true:=by simp;omega
   clear h1;go_wp2;go_meet;exact⟨true,rfl,Hb,rfl⟩
  ·have Hb:=eh (show IsB (decide ((20:Int)<p.methods.length)) (20<p.classes.length∨20<p.methods.length) by simp[IsB];omega);have g1:decide ((20:Int)<p.classes.length)=false:=by simp;omega
   clear h1;go_wp2;go_meet;exact⟨_,rfl,Hb,rfl⟩
 case rest=>
  obtain⟨bb,rfl,Hbb,hwx⟩:=hcut;subst hwx;cases bb with
  |true=>
   go_wp2;exact HP.out false _ (by simp;intro hl;have h2:20<p.classes.length∨20<p.methods.length:=Hbb.out.1 rfl;have:=hl.cl;have:=hl.ms;omega) hw2
  |false=>
   have Hlen:=eh (show p.classes.length≤20∧p.methods.length≤20 by
    have h:=Hbb.out;simp[IsB]at h;omega)
   go_wp2;go_loop [3] (fun iv=>∃k:Nat,k≤p.classes.length∧iv=.int .i64 k∧Hid (∀j,j<k→(p.classes.getD j ⟨#[]⟩).size≤30)) (fun iv=>p.classes.length-(intOf iv).toNat)
   case atStart=>exact⟨0,Nat.zero_le _,rfl,eh (fun j h=>by omega)⟩
   case round=>
    obtain⟨k,hk,rfl,Hk⟩:=hrel
    by_cases hlt:k<p.classes.length
    ·obtain⟨b,off,hA,hbb,c1⟩:=str_at hr2.cl hlt;have hfs:=hp.fs k hlt;have Hs:Hid (30<(p.classes.getD k ⟨#[]⟩).size→¬LightP p):=eh (fun h hl=>by have:=hl.fs k hlt;omega);have Hs2:Hid (¬30<(p.classes.getD k ⟨#[]⟩).size→∀j,j<k+1→(p.classes.getD j ⟨#[]⟩).size≤30):=eh (fun h j hj=>by
      by_cases e:j=k
      ·subst e;omega
      ·exact Hk.out j (by omega))
     generalize p.classes.getD k ⟨#[]⟩=s at*;have k0:(0:Int)≤k:=by omega
     have k1:(k:Int)<p.classes.length:=by omega
     subst hA;cases hs:decide (30<(s.size:Int))with
     |true=>
      have Hn:=eh (Hs.out (by have:=of_decide_eq_true hs;omega));go_wp2;exact HP.out false _ (by simp[Hn.out]) hw2
     |false=>
      have Hn:=eh (Hs2.out (by have:=of_decide_eq_false hs;omega));go_wp2;go_round
      case rel=>exact⟨k+1,by omega,by go_num,Hn⟩
      case measure=>simp[intOf];omega
    ·have hge:¬(k:Int)<p.classes.length:=by omega
     have Hcl:=eh (fun j (hj:j<p.classes.length)=>Hk.out j (by omega));clear hlt;go_wp2;clear hge p0 p1;go_loopw [4] (fun iv wr=>∃i:Nat,i≤p.methods.length∧iv=.int .i64 i∧Hid (∀k,k<i→(p.methods.getD k default).pa.size≤30∧(p.methods.getD k default).lo.size≤30∧(p.methods.getD k default).re.size≤30∧(p.methods.getD k default).code.length≤140)∧Below w.heap.size w wr∧Blk wr w.heap.size 31 #[.slice Ac p.classes.length cc,.slice Am p.methods.length cm]) (fun iv _=>p.methods.length-(intOf iv).toNat)
     case atStart=>exact⟨0,Nat.zero_le _,rfl,eh (fun j h=>by omega),hw2,hP⟩
     case round=>
      clear hw2 hP hPl hr2;obtain⟨i,hi,rfl,Hi,hb,hP⟩:=hrel;have hz:=hb.size;have p0:=hP.at0;have p1:=hP.at1;have hPl:=hP.lt
      by_cases hlt:i<p.methods.length
      ·obtain⟨b,off,Ai,ci,hA,hbb,m0,m1,m2,m3,hcode⟩:=mth_at (hr.ms.below hb (Nat.le_refl _)) hlt;have hmk:=hp.m i hlt;have hm1:=hmk.pa;have hm2:=hmk.lo;have hm3:=hmk.re;have hm4:=hmk.code;have Hs:Hid ((30<(p.methods.getD i default).pa.size∨30<(p.methods.getD i default).lo.size∨30<(p.methods.getD i default).re.size∨140<(p.methods.getD i default).code.length)→¬LightP p):=eh (fun h hl=>by have:=hl.m i hlt;omega);have Hs2:Hid (¬(30<(p.methods.getD i default).pa.size∨30<(p.methods.getD i default).lo.size∨30<(p.methods.getD i default).re.size∨140<(p.methods.getD i default).code.length)→∀k,k<i+1→(p.methods.getD k default).pa.size≤30∧(p.methods.getD k default).lo.size≤30∧(p.methods.getD k default).re.size≤30∧(p.methods.getD k default).code.length≤140):=eh (fun h j hj=>by
        by_cases e:j=i
        ·subst e;omega
        ·exact Hi.out j (by omega))
       generalize p.methods.getD i default=m at*;have k0:(0:Int)≤i:=by omega
       have k1:(i:Int)<p.methods.length:=by omega
       subst hA;go_upto_region 12 with(fail);have hM:=Blk.new wr 27 #[.string m.pa,.string m.lo,.string m.re,.slice Ai m.code.length ci];have hP1:=hP.alloc (.cells #[.string m.pa,.string m.lo,.string m.re,.slice Ai m.code.length ci] 27);have hb1:=hb.alloc hz (.cells #[.string m.pa,.string m.lo,.string m.re,.slice Ai m.code.length ci] 27);clear p0 p1 m0 m1 m2 m3 hcode hP hb;generalize wr.alloc (.cells #[.string m.pa,.string m.lo,.string m.re,.slice Ai m.code.length ci] 27)=w3 at*;generalize wr.heap.size=gm at*;have y0:=hM.at0;have y1:=hM.at1;have y2:=hM.at2;have y3:=hM.at3;have hMl:=hM.lt;go_cut [64]from 43 to 64 (fun v wx=>∃b:Bool,v=.bool b∧Hid (IsB b (30<m.pa.size∨30<m.lo.size∨30<m.re.size∨140<m.code.length))∧w3=wx)
       case first=>
        by_cases h1:30<m.pa.size
        ·have Hb:=eh (show IsB true (30<m.pa.size∨30<m.lo.size∨30<m.re.size∨140<m.code.length) by simp[IsB,h1]);have g1:decide ((30:Int)<m.pa.size)=true:=by simp;omega
         clear h1;go_wp2;go_meet;exact⟨true,rfl,Hb,rfl⟩
        ·by_cases h2:30<m.lo.size
         ·have Hb:=eh (show IsB true (30<m.pa.size∨30<m.lo.size∨30<m.re.size∨140<m.code.length) by simp[IsB,h2]);have g1:decide ((30:Int)<m.pa.size)=false:=by simp;omega
          have g2:decide ((30:Int)<m.lo.size)=true:=by simp;omega
          clear h1 h2;go_wp2;go_meet;exact⟨true,rfl,Hb,rfl⟩
         ·by_cases h3:30<m.re.size
          ·have Hb:=eh (show IsB true (30<m.pa.size∨30<m.lo.size∨30<m.re.size∨140<m.code.length) by simp[IsB,h3]);have g1:decide ((30:Int)<m.pa.size)=false:=by simp;omega
           have g2:decide ((30:Int)<m.lo.size)=false:=by simp;omega
           have g3:decide ((30:Int)<m.re.size)=true:=by simp;omega
           clear h1 h2 h3;go_wp2;go_meet;exact⟨true,rfl,Hb,rfl⟩
          ·have Hb:=eh (show IsB (decide ((140:Int)<m.code.length)) (30<m.pa.size∨30<m.lo.size∨30<m.re.size∨140<m.code.length) by simp[IsB];omega);have g1:decide ((30:Int)<m.pa.size)=false:=by simp;omega
           have g2:decide ((30:Int)<m.lo.size)=false:=by simp;omega
           have g3:decide ((30:Int)<m.re.size)=false:=by simp;omega
           clear h1 h2 h3;go_wp2;go_meet;exact⟨_,rfl,Hb,rfl⟩
       case rest=>
        obtain⟨bb,rfl,Hbb,hwx⟩:=hcut;subst hwx;cases bb with
        |true=>
         have Hn:=eh (Hs.out (Hbb.out.1 rfl));go_wp2;exact HP.out false _ (by simp[Hn.out]) hb1
        |false=>
         have Hn:=eh (Hs2.out (fun h=>by have:=Hbb.out.2 h;cases this));go_wp2;go_roundw
         case rel=>exact⟨i+1,by omega,by go_num,Hn,hb1,hP1⟩
         case measure=>simp[intOf];omega
      ·have hge:¬(i:Int)<p.methods.length:=by omega
       clear hlt;have HL:=eh (show LightP p from⟨Hlen.out.1,Hlen.out.2,Hcl.out,fun k hk=>Hi.out k (by omega)⟩);go_wp2;exact HP.out true _ (by simp[HL.out]) hb
end Go.Proofs.YtgbgbmdiomhfiaaGreatDoor
namespace Go.Proofs.YtgbgbmdiomhfiaaGreatDoor
open Go.ChangeShapes Go.WideShapes Go.ChangeAt Go.RowKit
theorem tab_of_vars{P:Program}{W:World}{name:String}{k:IntKind}{zs:List Int}{g:Nat}{t e:TypeId}{n:Nat}
 (hg:P.globalNamed name=some g)(hty:(P.globals[g]?).map (·.type)=some t)(ht:P.underlying t=some (.array n e))(he:P.underlying e=some (.int k))(hce:P.cellsOf e=1)(hct:P.cellsOf t=n):
 ∀{L:List (String×DataW Unit)} {ps:List MemPlace},DataW.LaidVars P W L ps→∀i:Nat,L[i]? =some (name,Lib.tabData k zs)→Lib.TabIs P W name k zs
 | [],_,_,i,hi=>by simp at hi
 |x::L,ps,h,i,hi=>by
  obtain⟨nm,d⟩:=x;obtain⟨g',t',cs,fuel,p,q,hg',ht',hvar,hd,hq,_⟩:=h;cases i with
  |zero=>
   simp only[List.getElem?_cons_zero,Option.some.injEq,Prod.mk.injEq]at hi;obtain⟨rfl,rfl⟩:=hi;obtain rfl:=Option.some.inj (hg.symm.trans hg');obtain rfl:=Option.some.inj (hty.symm.trans ht');unfold Lib.TabIs;rw[hvar,←Lib.cells_of_tab ht he hce hct hd]
  |succ i=>exact tab_of_vars hg hty ht he hce hct hq i (by simpa using hi)
theorem tab_of_laid{W:World}{L:List (String×DataW Unit)}{name:String}{k:IntKind}{zs:List Int}{g:Nat}{t e:TypeId}{n:Nat}(h:laidMetH Tryz.prog L W)(hplain:(L.all fun x=>x.2.handleName?.isNone)=true)
 (hg:Tryz.prog.globalNamed name=some g)(hty:(Tryz.prog.globals[g]?).map (·.type)=some t)(ht:Tryz.prog.underlying t=some (.array n e))(he:Tryz.prog.underlying e=some (.int k))(hce:Tryz.prog.cellsOf e=1)(hct:Tryz.prog.cellsOf t=n)
 (i:Nat)(hi:L[i]? =some (name,Lib.tabData k zs)):Lib.TabIs Tryz.prog W name k zs:=by
 rw[MakeChecks.laidMetH_plain _ _ _ hplain]at h;obtain⟨ps,hv,_⟩:=h;exact tab_of_vars hg hty ht he hce hct hv i hi
end Go.Proofs.YtgbgbmdiomhfiaaGreatDoor