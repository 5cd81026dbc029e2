/-
 See2, Pg, Err, Trim, PgRd, PgSort, Shape, Sorted, PgZeros, Mk, Frame.
-/
import Derived.LaidEql
import Derived.RegionTactic
import Derived.ChangeAlike
import Derived.Shelf.Strings.SlTrimAscii
import Derived.Test.YtgbgbmdiomhfiaaGreatDoorProg
import Derived.Deep.DeepCutAuto
import Derived.Lib.SliceRun
import Derived.Deep.RegionLaw
import Derived.Deep.OwnRows
import Derived.Deep.CutBlock
import Derived.IntWalk
import Derived.Deep.Onto
import Derived.Lib.AppendZerosOnto
import Derived.ProofKit
import Derived.LaidMore
import Derived.OpenShut
import Derived.Deep.DeepHandedRow
import Derived.Deep.DeepWitnessRowRef
import Derived.Lay
import Derived.Test.YtgbgbmdiomhfiaaGreatDoorJBt1
set_option linter.unusedSimpArgs false
set_option linter.unusedVariables false
set_option maxHeartbeats 4000000
set_option maxRecDepth 1000000
namespace Go.Proofs.YtgbgbmdiomhfiaaGreatDoor
open Go.RowKit Go.Maps
def codeOf(k:Nat):Int:=if k=0 then 0 else 100+k
end Go.Proofs.YtgbgbmdiomhfiaaGreatDoor
namespace Go.Proofs.YtgbgbmdiomhfiaaGreatDoor
def firstOf{α:Type}(f:Nat→Option α)(n:Nat):Option α:=(List.range n).findSome? f
theorem firstOf_none{α:Type}{f:Nat→Option α}{n:Nat}(h:∀j,j<n→f j=none):firstOf f n=none:=by
 unfold firstOf;rw[List.findSome?_eq_none_iff];intro x hx;exact h x (List.mem_range.1 hx)
theorem firstOf_some{α:Type}{f:Nat→Option α}{n k:Nat}{x:α}(hk:k<n)(h:∀j,j<k→f j=none)(hx:f k=some x):firstOf f n=some x:=by
 unfold firstOf;obtain⟨m,rfl⟩:∃m,n=k+1+m:=⟨n-(k+1),by omega⟩;have e:List.range (k+1+m)=List.range k++(k::(List.range m).map fun i=>k+1+i):=by
  rw[List.range_add,List.range_succ,List.append_assoc];rfl
 rw[e,List.findSome?_append];have h0:List.findSome? f (List.range k)=none:=by
  rw[List.findSome?_eq_none_iff];intro x hx;exact h x (List.mem_range.1 hx)
 rw[h0];simp[hx]
structure Ins where
 op:Int
 a:Int
 b:Int
 n:Int
deriving DecidableEq,Inhabited
structure Mth where
 pa:ByteArray
 lo:ByteArray
 re:ByteArray
 code:List Ins
instance:Inhabited Mth:=⟨⟨⟨#[]⟩,⟨#[]⟩,⟨#[]⟩,[]⟩⟩
structure Prg where
 classes:List ByteArray
 methods:List Mth
def lettersB(s:ByteArray):Bool:=s.data.toList.all fun c=>c==73||c==82
def inB(i:Int)(n:Nat):Bool:=decide (0≤i)&&decide (i<n)
def opsA:List Int:=[3,4,22,23,24,25,26,27,28,29,30,32]
def usesA(op:Int):Bool:=decide (op∈opsA)
def usesB(op:Int):Bool:=decide (op=25∨op=26)
def insBad(cl:List ByteArray)(nm:Nat)(locals codes:Nat)(x:Ins):Nat:=
 if x.op<1∨35<x.op then 2
 else if(x.op=22∨x.op=23)∧inB x.a codes=false then 4
 else if(x.op=3∨x.op=4)∧inB x.a locals=false then 3
 else if(x.op=24∨x.op=27∨x.op=25∨x.op=26)∧inB x.a cl.length=false then 3
 else if(x.op=25∨x.op=26)∧inB x.b (cl.getD x.a.toNat ⟨#[]⟩).size=false then 3
 else if(x.op=28∨x.op=29∨x.op=30)∧inB x.a 2=false then 3
 else if x.op=32∧(x.a≤0∨inB x.a nm=false)then 3
 else if usesA x.op=false∧x.a≠0∨usesB x.op=false∧x.b≠0∨x.op≠1∧x.n≠0 then 3
 else 0
def retOk(s:ByteArray):Bool:=s.toList.isEmpty||s.toList==[73]||s.toList==[82]
def uR(m:Mth)(first:Bool):Nat:=
 if 12<m.pa.size+m.lo.size∨m.code.length=0∨120<m.code.length then 1
 else if lettersB m.pa=false∨lettersB m.lo=false∨retOk m.re=false∨first=true∧(m.pa.toList≠[]∨m.re.toList=[82])then 2
 else 0
abbrev Flt:=Nat×List Int
def some_(k:Nat)(at_:List Int):Option Flt:=if k=0 then none else some (k,at_)
def clsBad(p:Prg)(i:Nat):Option Flt:=
 let f:=p.classes.getD i ⟨#[]⟩
 some_ (if 10<f.size then 1 else if lettersB f=false then 2 else 0) [i,-1]
def codeBad(p:Prg)(m:Mth)(i pc:Nat):Option Flt:=some_ (insBad p.classes p.methods.length (m.pa.size+m.lo.size) m.code.length (m.code.getD pc default)) [i,pc]
def mthBad(p:Prg)(i:Nat):Option Flt:=
 let m:=p.methods.getD i default
 (some_ (uR m (decide (i=0))) [i,-1]).or (firstOf (codeBad p m i) m.code.length)
def mayP(p:Prg):Flt:=
 if 12<p.classes.length∨p.methods.length=0∨12<p.methods.length then(1,[])
 else((firstOf (clsBad p) p.classes.length).or (firstOf (mthBad p) p.methods.length)).getD (0,[])
end Go.Proofs.YtgbgbmdiomhfiaaGreatDoor
namespace Go.Proofs.YtgbgbmdiomhfiaaGreatDoor
open Go.RowKit Go.Maps
def whereV(b:Nat):Value:=.iface 103 (.pointer (some ⟨b,0,none⟩))
inductive ErrV(a:Nat→Addr)(w:World):Value→Flt→Prop
 |nil:ErrV a w .nilIface (0,[])
 |bare (k:Nat) (h:k+1∈all14):ErrV a w (sent (a (k+1))) (k+1,[])
 |there (k:Nat) (m pc:Int) (b:Nat) (h:k+1∈all14) (hb:Blk w b 105 #[.int .i64 m,.int .i64 pc,sent (a (k+1))]):ErrV a w (whereV b) (k+1,[m,pc])
end Go.Proofs.YtgbgbmdiomhfiaaGreatDoor
namespace Go.Proofs.YtgbgbmdiomhfiaaGreatDoor
open Go.Shelf
def lays160_ren:Go.Shelf.Ren:=⟨fun |160=>63|232=>98|231=>97|227=>99|234=>101|233=>100|236=>103|235=>102|228=>130|271=>133|151=>132|197=>131|120=>157|152=>156|260=>155|137=>169|119=>170|224=>171|225=>172|217=>181|266=>190|n=>n,fun |9=>9|4=>4|3=>3|5=>5|117=>215|116=>214|0=>0|124=>218|21=>21|105=>245|46=>221|119=>282|139=>285|138=>284|n=>n,fun |3=>10|4=>11|n=>n⟩
theorem lays160:Go.Proofs.Lays.n160 Tryz.prog lays160_ren:={
 mixed:=by kernel_rfl
 f119:=Tryz.func170.trans (congrArg some (by kernel_rfl))
 f120:=Tryz.func157.trans (congrArg some (by kernel_rfl))
 f137:=Tryz.func169.trans (congrArg some (by kernel_rfl))
 f151:=Tryz.func132.trans (congrArg some (by kernel_rfl))
 f152:=Tryz.func156.trans (congrArg some (by kernel_rfl))
 f160:=Tryz.func63.trans (congrArg some (by kernel_rfl))
 f197:=Tryz.func131.trans (congrArg some (by kernel_rfl))
 f217:=Tryz.func181.trans (congrArg some (by kernel_rfl))
 f224:=Tryz.func171.trans (congrArg some (by kernel_rfl))
 f225:=Tryz.func172.trans (congrArg some (by kernel_rfl))
 f227:=Tryz.func99.trans (congrArg some (by kernel_rfl))
 f228:=Tryz.func130.trans (congrArg some (by kernel_rfl))
 f231:=Tryz.func97.trans (congrArg some (by kernel_rfl))
 f232:=Tryz.func98.trans (congrArg some (by kernel_rfl))
 f233:=Tryz.func100.trans (congrArg some (by kernel_rfl))
 f234:=Tryz.func101.trans (congrArg some (by kernel_rfl))
 f235:=Tryz.func102.trans (congrArg some (by kernel_rfl))
 f236:=Tryz.func103.trans (congrArg some (by kernel_rfl))
 f260:=Tryz.func155.trans (congrArg some (by kernel_rfl))
 f266:=Tryz.func190.trans (congrArg some (by kernel_rfl))
 f271:=Tryz.func133.trans (congrArg some (by kernel_rfl))
 t0:=Tryz.underlying0
 a0:=Tryz.isAgg0
 z0:=Tryz.sizeOf0
 v0:=Tryz.zeroValue0
 t3:=Tryz.underlying3
 a3:=Tryz.isAgg3
 z3:=Tryz.sizeOf3
 v3:=Tryz.zeroValue3
 t4:=Tryz.underlying4
 a4:=Tryz.isAgg4
 z4:=Tryz.sizeOf4
 v4:=Tryz.zeroValue4
 t5:=Tryz.underlying5
 a5:=Tryz.isAgg5
 z5:=Tryz.sizeOf5
 v5:=Tryz.zeroValue5
 t9:=Tryz.underlying9
 a9:=Tryz.isAgg9
 z9:=Tryz.sizeOf9
 v9:=Tryz.zeroValue9
 t21:=Tryz.underlying21
 a21:=Tryz.isAgg21
 z21:=Tryz.sizeOf21
 v21:=Tryz.zeroValue21
 t46:=Tryz.underlying221
 a46:=Tryz.isAgg221
 z46:=Tryz.sizeOf221
 v46:=Tryz.zeroValue221
 t105:=Tryz.underlying245
 a105:=Tryz.isAgg245
 z105:=Tryz.sizeOf245
 v105:=Tryz.zeroValue245
 t116:=Tryz.underlying214
 a116:=Tryz.isAgg214
 z116:=Tryz.sizeOf214
 t117:=Tryz.underlying215
 a117:=Tryz.isAgg215
 z117:=Tryz.sizeOf215
 v117:=Tryz.zeroValue215
 t119:=Tryz.underlying282
 a119:=Tryz.isAgg282
 z119:=Tryz.sizeOf282
 t124:=Tryz.underlying218
 a124:=Tryz.isAgg218
 z124:=Tryz.sizeOf218
 v124:=Tryz.zeroValue218
 t138:=Tryz.underlying284
 a138:=Tryz.isAgg284
 z138:=Tryz.sizeOf284
 v138:=Tryz.zeroValue284
 t139:=Tryz.underlying285
 a139:=Tryz.isAgg285
 z139:=Tryz.sizeOf285
 v139:=Tryz.zeroValue285
 g3:=by kernel_rfl
 g4:=by kernel_rfl}
end Go.Proofs.YtgbgbmdiomhfiaaGreatDoor
namespace Go.Proofs.YtgbgbmdiomhfiaaGreatDoor
open Go.RowKit Go.Maps
theorem flat_at{α:Type}(g:α→List Value)(s:Nat)(hg:∀x,(g x).length=s):∀(l:List α) (k j:Nat) (x:α),l[k]? =some x→j<s→(l.flatMap g)[k*s+j]? =(g x)[j]?
 | [],k,j,x,h,_=>by simp at h
 |y::r,0,j,x,h,hj=>by
  simp at h;subst h;rw[List.flatMap_cons,Nat.zero_mul,Nat.zero_add,List.getElem?_append_left (by rw[hg];exact hj)]
 |y::r,k+1,j,x,h,hj=>by
  have:=flat_at g s hg r k j x (by simpa using h) hj;rw[List.flatMap_cons,Nat.succ_mul,List.getElem?_append_right (by rw[hg];omega),hg,←this];congr 1;omega
def icell(x:Ins):List Value:=[.int .i64 x.op,.int .i64 x.a,.int .i64 x.b,.int .i64 x.n]
def icells(l:List Ins):List Value:=l.flatMap icell
def mcell(x:Mth×(Option Addr×Nat)):List Value:=[.string x.1.pa,.string x.1.lo,.string x.1.re,.slice x.2.1 x.1.code.length x.2.2]
def mthCells(ms:List Mth)(hs:List (Option Addr×Nat)):List Value:=(ms.zip hs).flatMap mcell
def RdMs(w:World)(B:Nat)(A:Option Addr)(ms:List Mth):Prop:=
 ∃hs:List (Option Addr×Nat),hs.length=ms.length∧Rd w B 4 A ms.length (mthCells ms hs)∧∀(k:Nat) (m:Mth) (h:Option Addr×Nat),ms[k]? =some m→hs[k]? =some h→Rd w B 4 h.1 m.code.length (icells m.code)
section
variable {w w':World} {B B':Nat} {A:Option Addr}
theorem RdMs.keep{ms:List Mth}(h:RdMs w B A ms)(hk:∀p:Addr,p.block<B→w'.cell? p=w.cell? p):RdMs w' B A ms:=by
 obtain⟨hs,h1,h2,h3⟩:=h;exact⟨hs,h1,h2.keep hk,fun k m h e1 e2=>(h3 k m h e1 e2).keep hk⟩
theorem RdMs.more{ms:List Mth}(h:RdMs w B A ms)(hB:B≤B'):RdMs w B' A ms:=by
 obtain⟨hs,h1,h2,h3⟩:=h;exact⟨hs,h1,h2.more hB,fun k m h e1 e2=>(h3 k m h e1 e2).more hB⟩
theorem RdMs.below{C:Nat}{ms:List Mth}(h:RdMs w B A ms)(hb:Below C w w')(hC:B≤C):RdMs w' B A ms:=h.keep fun _ hp=>hb.cell (Nat.lt_of_lt_of_le hp hC)
theorem ins_at{l:List Ins}(h:Rd w B 4 A l.length (icells l)){k:Nat}(hk:k<l.length):
 ∃b off,A=some ⟨b,off,none⟩∧b<B∧w.cell? ⟨b,off+k*4,none⟩=some (.int .i64 (l.getD k default).op)∧w.cell? ⟨b,off+k*4+1,none⟩=some (.int .i64 (l.getD k default).a)∧
  w.cell? ⟨b,off+k*4+2,none⟩=some (.int .i64 (l.getD k default).b)∧w.cell? ⟨b,off+k*4+3,none⟩=some (.int .i64 (l.getD k default).n):=by
 obtain⟨b,off,e,hb,hc⟩:=h.2 (by omega);have hx:l[k]? =some (l.getD k default):=by simp[hk]
 have key:=fun j (hj:j<4)=>flat_at icell 4 (fun _=>rfl) l k j _ hx hj
 exact⟨b,off,e,hb,hc _ _ (key 0 (by omega)),hc _ _ (key 1 (by omega)),hc _ _ (key 2 (by omega)),hc _ _ (key 3 (by omega))⟩
theorem str_at{l:List ByteArray}(h:Rd w B 1 A l.length (l.map Value.string)){k:Nat}(hk:k<l.length):
 ∃b off,A=some ⟨b,off,none⟩∧b<B∧w.cell? ⟨b,off+k,none⟩=some (.string (l.getD k ⟨#[]⟩)):=by
 obtain⟨b,off,e,hb,hc⟩:=h.2 (by omega);exact⟨b,off,e,hb,hc _ _ (by simp[hk])⟩
theorem mth_at{ms:List Mth}(h:RdMs w B A ms){k:Nat}(hk:k<ms.length):
 ∃b off Ai ci,A=some ⟨b,off,none⟩∧b<B∧w.cell? ⟨b,off+k*4,none⟩=some (.string (ms.getD k default).pa)∧w.cell? ⟨b,off+k*4+1,none⟩=some (.string (ms.getD k default).lo)∧
  w.cell? ⟨b,off+k*4+2,none⟩=some (.string (ms.getD k default).re)∧w.cell? ⟨b,off+k*4+3,none⟩=some (.slice Ai (ms.getD k default).code.length ci)∧
  Rd w B 4 Ai (ms.getD k default).code.length (icells (ms.getD k default).code):=by
 obtain⟨hs,h1,h2,h3⟩:=h;obtain⟨b,off,e,hb,hc⟩:=h2.2 (by omega);have hx:ms[k]? =some (ms.getD k default):=by simp[hk]
 have hy:hs[k]? =some (hs[k]'(by omega)):=List.getElem?_eq_getElem (by omega);have hz:(ms.zip hs)[k]? =some (ms.getD k default,hs[k]'(by omega)):=by
  rw[List.getElem?_zip_eq_some];exact⟨hx,hy⟩
 have key:=fun j (hj:j<4)=>flat_at mcell 4 (fun _=>rfl) (ms.zip hs) k j _ hz hj
 exact⟨b,off,_,_,e,hb,hc _ _ (key 0 (by omega)),hc _ _ (key 1 (by omega)),hc _ _ (key 2 (by omega)),hc _ _ (key 3 (by omega)),h3 k _ _ hx hy⟩
end
structure MOk(m:Mth):Prop where
 pa:m.pa.size≤9223372036854775807
 lo:m.lo.size≤9223372036854775807
 re:m.re.size≤9223372036854775807
 code:m.code.length≤9223372036854775807
structure POk(p:Prg):Prop where
 cl:p.classes.length≤9223372036854775807
 ms:p.methods.length≤9223372036854775807
 fs:∀k,k<p.classes.length→(p.classes.getD k ⟨#[]⟩).size≤9223372036854775807
 m:∀k,k<p.methods.length→MOk (p.methods.getD k default)
abbrev pv(Ac:Option Addr)(cc:Nat)(Am:Option Addr)(cm:Nat)(p:Prg):Value:=.agg #[.slice Ac p.classes.length cc,.slice Am p.methods.length cm]
abbrev mv(A:Option Addr)(c:Nat)(m:Mth):Value:=.agg #[.string m.pa,.string m.lo,.string m.re,.slice A m.code.length c]
abbrev iv(x:Ins):Value:=.agg #[.int .i64 x.op,.int .i64 x.a,.int .i64 x.b,.int .i64 x.n]
structure RdP(w:World)(B:Nat)(Ac Am:Option Addr)(p:Prg):Prop where
 cl:Rd w B 1 Ac p.classes.length (p.classes.map Value.string)
 ms:RdMs w B Am p.methods
theorem RdP.below{w w':World}{B C:Nat}{Ac Am:Option Addr}{p:Prg}(h:RdP w B Ac Am p)(hb:Below C w w')(hC:B≤C):RdP w' B Ac Am p:=⟨h.cl.below hb hC,h.ms.below hb hC⟩
theorem RdP.more{w:World}{B B':Nat}{Ac Am:Option Addr}{p:Prg}(h:RdP w B Ac Am p)(hB:B≤B'):RdP w B' Ac Am p:=⟨h.cl.more hB,h.ms.more hB⟩
theorem ret_tup3{a b c a' b' c':Bool}(h1:a=a')(h2:b=b')(h3:c=c'):Ending.returned (.tuple #[.bool a,.bool b,.bool c])=.returned (.tuple #[.bool a',.bool b',.bool c']):=by rw[h1,h2,h3]
def IndexPost(w:World)(l:List Int)(x:Int)(e:Ending)(w':World):Prop:=∃r:Int,e=.returned (.int .i64 r)∧decide (0≤r)=decide (x∈l)∧w=w'
theorem index_any(w:World){B:Nat}{A:Option Addr}{n c:Nat}{l:List Int}(hr:Rd w B 1 A n (ints l))(hn:n≤9223372036854775807)(x:Int):
 Calls Tryz.prog 56 #[.slice A n c,.int .i64 x] w (IndexPost w l x):=by
 have hll:l.length=n:=by simpa[ints]using hr.1
 have Hll:=eh hll;clear hll;go_enter Tryz.func56,Tryz.ntmps56;go_wp2;go_loop [8] (fun i=>∃k:Nat,k≤n∧i=.int .i64 k∧∀j,j<k→l[j]?.getD 0≠x) (fun i=>n-(intOf i).toNat)
 case atStart=>exact⟨0,Nat.zero_le _,rfl,fun j hj=>by omega⟩
 case round=>
  obtain⟨k,hk,rfl,hno⟩:=hrel;have Hno:=eh hno;clear hno
  by_cases hlt:k<n
  ·obtain⟨b,off,rfl,hbl,c1⟩:=uX hr hlt;have k0:(0:Int)≤k:=by omega
   have k1:(k:Int)<n:=by omega
   go_wp2
   ·have e:x=l[k]?.getD 0:=by simpa using(show(x==l[k]?.getD 0)=true by assumption)
    go_ret;have hk2:k<l.length:=by rw[Hll.out];exact hlt
    refine⟨k,rfl,?_,rfl⟩;rw[List.getElem?_eq_getElem hk2]at e;rw[decide_eq_true k0,decide_eq_true];rw[e];exact List.getElem_mem hk2
   ·have e:¬x=l[k]?.getD 0:=by simpa using(show(x==l[k]?.getD 0)=false by assumption)
    go_round
    case rel=>exact⟨k+1,by omega,by go_num,fun j hj=>by
     by_cases h:j=k
     ·subst h;exact fun e'=>e e'.symm
     ·exact Hno.out j (by omega)⟩
    case measure=>simp[intOf];omega
  ·have e:k=n:=by omega
   go_wp2;go_ret;refine⟨-1,rfl,?_,rfl⟩;rw[decide_eq_false (by omega),decide_eq_false];intro hx;obtain⟨j,hj,he⟩:=List.mem_iff_getElem.1 hx;have:=Hno.out j (by rw[e,←Hll.out];exact hj);rw[List.getElem?_eq_getElem hj]at this;exact this he
theorem contains_any(w:World){B:Nat}{A:Option Addr}{n c:Nat}{l:List Int}(hr:Rd w B 1 A n (ints l))(hn:n≤9223372036854775807)(x:Int):
 Calls Tryz.prog 45 #[.slice A n c,.int .i64 x] w fun e w'=>e=.returned (.bool (decide (x∈l)))∧w=w':=by
 go_enter Tryz.func45,Tryz.ntmps45;go_wp2_with fail;refine(index_any _ hr hn x).mono ?_;rintro e w' ⟨r,rfl,hr,rfl⟩;have Hr:=eh hr;clear hr;go_wp2;go_ret;exact⟨uV Hr.out,rfl⟩
theorem in_any(i:Int)(n:Nat)(w:World):Calls Tryz.prog 64 #[.int .i64 i,.int .i64 n] w fun e w'=>e=.returned (.bool (inB i n))∧w=w':=by
 have e:inB i n=(decide (0≤i)&&decide (i<n)):=rfl;have He:=eh e;clear e
 by_cases h:0≤i
 ·go_enter Tryz.func64,Tryz.ntmps64;go_wp2;go_ret;exact⟨uV (by rw[He.out];simp[h]),rfl⟩
 ·go_enter Tryz.func64,Tryz.ntmps64;go_wp2;go_ret;exact⟨uV (by rw[He.out,decide_eq_false (by omega)];rfl),rfl⟩
theorem info256:(Tryz.prog.info? (lays160_ren.t 116)).map (fun i=>(i.zero,i.size))=some (some (.agg (Array.replicate 256 (.bool false))),256):=by kernel_rfl
theorem dw_nil{α:Type}(p:α→Bool):∀l:List α,l.dropWhile p=[]↔∀x∈l,p x=true
 | []=>by simp
 |x::r=>by
  rw[List.dropWhile_cons]
  by_cases h:p x=true
  ·rw[if_pos h,dw_nil p r];simp[h]
  ·rw[if_neg h];simp[h]
theorem trim_all(l:List UInt8):Lib.trimS l [73,82]=[]↔l.all (fun c=>c==73||c==82)=true:=by
 have hc:(fun c:UInt8=>[73,82].contains c)=fun c=>c==73||c==82:=by
  funext c;rw[Bool.eq_iff_iff];simp
 unfold Lib.trimS Lib.trimLeftS Lib.trimRightS;rw[hc];constructor
 ·intro h;rw[dw_nil]at h;rw[List.all_eq_true]
  by_cases h0:l.reverse.dropWhile (fun c=>c==73||c==82)=[]
  ·rw[dw_nil]at h0;exact fun x hx=>h0 x (List.mem_reverse.2 hx)
  ·have h1:=List.head_dropWhile_not (fun c:UInt8=>c==73||c==82) h0;have h2:=h ((l.reverse.dropWhile (fun c=>c==73||c==82)).head h0) (List.mem_reverse.2 (List.head_mem h0));rw[h2]at h1;cases h1
 ·intro h;have :l.reverse.dropWhile (fun c=>c==73||c==82)=[]:=by
   rw[dw_nil];rw[List.all_eq_true]at h;exact fun x hx=>h x (List.mem_reverse.1 hx)
  rw[this];rfl
theorem letters_any(s:ByteArray)(w:World)(hs:s.size≤9223372036854775807):
 Calls Tryz.prog 32 #[.string s] w fun e w'=>e=.returned (.bool (lettersB s))∧Below w.heap.size w w':=by
 have ht:=fun w=>Any.strings_Trim_laid lays160 info256 s ⟨#[73,82]⟩ w hs (by decide) (ascii_of_all (by decide))
 have Ht:=eh ht;clear ht;go_enter Tryz.func32,Tryz.ntmps32;go_wp2_with fail;refine(Ht.out _).mono ?_;rintro e w1 ⟨rfl,hb⟩;go_wp2;go_ret;refine⟨uV ?_,hb⟩;rw[Bool.eq_iff_iff,List.isEmpty_iff];exact trim_all _
theorem opsA_rd(w:World):Rd (w.alloc (.cells #[.int .i64 3,.int .i64 4,.int .i64 22,.int .i64 23,.int .i64 24,.int .i64 25,.int .i64 26,.int .i64 27,.int .i64 28,.int .i64 29,.int .i64 30,.int .i64 32] 3)) (w.heap.size+1) 1 (some ⟨w.heap.size,0,none⟩) 12 (ints opsA):=Blk.rd (Blk.new w 3 ⟨ints opsA⟩) rfl (Nat.lt_succ_self _)
theorem uses_any(op:Int)(w:World):Calls Tryz.prog 65 #[.int .i64 op] w fun e w'=>e=.returned (.tuple #[.bool (usesA op),.bool (usesB op),.bool (decide (op=1))])∧Below w.heap.size w w':=by
 have hrd:=opsA_rd w;have hb:Below w.heap.size w (w.alloc (.cells #[.int .i64 3,.int .i64 4,.int .i64 22,.int .i64 23,.int .i64 24,.int .i64 25,.int .i64 26,.int .i64 27,.int .i64 28,.int .i64 29,.int .i64 30,.int .i64 32] 3)):=(Below.refl _ _).alloc (Nat.le_refl _) _
 by_cases h25:op=25
 ·subst h25;go_enter Tryz.func65,Tryz.ntmps65;go_wp2_with fail;refine(contains_any _ hrd (by omega) _).mono ?_;rintro e w1 ⟨rfl,rfl⟩;go_wp2;go_ret3;exact⟨rfl,hb⟩
 ·go_enter Tryz.func65,Tryz.ntmps65;go_wp2_with fail;refine(contains_any _ hrd (by omega) _).mono ?_;rintro e w1 ⟨rfl,rfl⟩;go_wp2;go_ret3;exact⟨ret_tup3 rfl (by rw[Bool.eq_iff_iff];simp[usesB,h25]) (by rw[Bool.eq_iff_iff];simp),hb⟩
theorem kinds_any(A:Option Addr)(c:Nat)(m:Mth)(w:World)(hm:m.pa.size+m.lo.size≤1000):
 Calls Tryz.prog 28 #[mv A c m] w fun e w'=>e=.returned (.string (m.pa++m.lo))∧Below w.heap.size w w':=by
 go_enter Tryz.func28,Tryz.ntmps28;have hk:¬9223372036854775807<m.pa.size+m.lo.size:=by omega
 go_wp2;go_ret;exact⟨rfl,(Below.refl _ _).alloc (Nat.le_refl _) _⟩
def kindB(m:Mth)(first:Bool):Bool:=decide (lettersB m.pa=false∨lettersB m.lo=false∨retOk m.re=false∨first=true∧(m.pa.toList≠[]∨m.re.toList=[82]))
def manyB(m:Mth):Bool:=decide (12<m.pa.size+m.lo.size∨m.code.length=0∨120<m.code.length)
theorem head_any(a:Nat→Addr)(B:Nat)(w:World)(h:Sent w B all14 a)(hB:B≤w.heap.size)(A:Option Addr)(c:Nat)(m:Mth)(hm:MOk m)(first:Bool):
 Calls Tryz.prog 33 #[mv A c m,.bool first] w fun e w'=>e=.returned (errV a (uR m first))∧Below w.heap.size w w':=by
 have h1:=hm.pa;have h2:=hm.lo;have h3:=hm.re;have h4:=hm.code;have g1:=fun o=>h.cellA hB (k:=1) (by decide) o
 have g2:=fun o=>h.cellA hB (k:=2) (by decide) o
 simp only[gOf,sent]at g1 g2;have G1:=eh g1;have G2:=eh g2;clear g1 g2;go_enter Tryz.func33,Tryz.ntmps33;go_upto_region 1 with(fail);go_cut [5]from 6 to 18 (fun v wx=>v=.bool (retOk m.re)∧wx=w.alloc (.cells #[.string m.pa,.string m.lo,.string m.re,.slice A m.code.length c] 27))
 case first=>
  go_wp2
  all_goals
   go_meet;refine⟨?_,rfl⟩;simp[retOk, *]
 case rest=>
  obtain⟨rfl,hwx⟩:=hcut;subst hwx;go_upto_region 2 with(fail);go_cut [19]from 20 to 45 (fun v wx=>v=.bool (manyB m)∧wx=w.alloc (.cells #[.string m.pa,.string m.lo,.string m.re,.slice A m.code.length c] 27))
  case first=>
   go_wp2
   all_goals
    go_meet;refine⟨congrArg Value.bool ?_,by first|rfl|simp[*]⟩;rw[Bool.eq_iff_iff];simp[manyB, *]<;>omega
  case rest=>
   obtain⟨rfl,hwx⟩:=hcut;subst hwx;cases hmany:manyB m with
   |true=>
    have c1:=G1.out;go_wp2;go_ret;have hh:uR m first=1:=by unfold uR;rw[if_pos (of_decide_eq_true hmany)]
    exact⟨by rw[hh];rfl,(Below.refl _ _).alloc (Nat.le_refl _) _⟩
   |false=>
    have hh:uR m first=if kindB m first then 2 else 0:=by
     unfold uR kindB;rw[if_neg (of_decide_eq_false hmany)];simp only[decide_eq_true_eq]
    have Hh:=eh hh;clear hh hmany;have hl1:=fun W=>letters_any m.pa W h1
    have hl2:=fun W=>letters_any m.lo W h2
    have Hl1:=eh hl1;have Hl2:=eh hl2;clear hl1 hl2;have Hk:=eh (show kindB m first=(!lettersB m.pa|| !lettersB m.lo|| !retOk m.re||first&&(!m.pa.toList.isEmpty||m.re.toList==[82])) by rw[Bool.eq_iff_iff];simp[kindB,or_assoc]);have hw0:Below w.heap.size w (w.alloc (.cells #[.string m.pa,.string m.lo,.string m.re,.slice A m.code.length c] 27)):=(Below.refl _ _).alloc (Nat.le_refl _) _;generalize retOk m.re=ro at*;go_upto_region 4 with(fail);go_cut [47]from 48 to 74 (fun v wx=>v=.bool (kindB m first)∧Below w.heap.size w wx)
    case first=>
     cases hlp:lettersB m.pa with
     |false=>
      rw[hlp]at Hl1 Hk;clear hlp;go_wp2_with fail;refine(Hl1.out _).mono ?_;rintro e w1 ⟨rfl,hb1⟩;go_wp2;go_meet;exact⟨by rw[Hk.out];rfl,hw0.trans (hb1.mono (by simp))⟩
     |true=>
      rw[hlp]at Hl1 Hk;clear hlp;go_wp2_with fail;refine(Hl1.out _).mono ?_;rintro e w1 ⟨rfl,hb1⟩;obtain⟨hc1,hf1⟩:=bcell hb1;have hw1:=hw0.trans (hb1.mono (by simp));have hz1:w.heap.size<w1.heap.size:=by have:=hb1.size;simp at this;omega
      cases hll:lettersB m.lo with
      |false=>
       rw[hll]at Hl2 Hk;clear hll;go_wp2_with fail;refine(Hl2.out _).mono ?_;rintro e w2 ⟨rfl,hb2⟩;go_wp2;go_meet;exact⟨by rw[Hk.out];rfl,hw1.trans (hb2.mono hw1.size)⟩
      |true=>
       rw[hll]at Hl2 Hk;clear hll;go_wp2_with fail;refine(Hl2.out _).mono ?_;rintro e w2 ⟨rfl,hb2⟩;have hw2:=hw1.trans (hb2.mono hw1.size);have hB2:=((Blk.new w 27 #[.string m.pa,.string m.lo,.string m.re,.slice A m.code.length c]).below hb1 (by simp)).below hb2 hz1;have q0:=hB2.at0;have q1:=hB2.at1;have q2:=hB2.at2;clear hc1 hf1;cases ro with
       |false=>
        go_wp2;go_meet;exact⟨by rw[Hk.out];rfl,hw2⟩
       |true=>
        cases first with
        |false=>
         go_wp2;go_meet;exact⟨by rw[Hk.out];rfl,hw2⟩
        |true=>
         go_wp2
         all_goals
          go_meet;refine⟨congrArg Value.bool ?_,hw2⟩;rw[Hk.out];simp[*]
    case rest=>
     obtain⟨rfl,hwx⟩:=hcut;cases hk:kindB m first with
     |true=>
      rw[hk]at Hh;have c2:=(h.below hwx hB).cell 2 (by decide);have c3:=c2.2;clear c2;simp only[gOf,sent]at c3;go_wp2;go_ret;exact⟨by rw[Hh.out];rfl,hwx⟩
     |false=>
      rw[hk]at Hh;go_wp2;go_ret;exact⟨by rw[Hh.out];rfl,hwx⟩
theorem less_same(x y:Int)(w:World):Calls Tryz.prog 140 #[.int .i64 x,.int .i64 y] w fun e w'=>e=.returned (.bool (decide (x<y)))∧w'=w:=by
 have hn:∀(z:Int) (W:World),Calls Tryz.prog 163 #[.int .i64 z] W fun e w'=>e=.returned (.bool false)∧W=w':=fun z W=>by
  go_enter Tryz.func163,Tryz.ntmps163;go_wp2;go_ret;exact⟨rfl,rfl⟩
 have Hn:=eh hn;clear hn;go_enter Tryz.func140,Tryz.ntmps140;go_wp2_with (go_at_call 163;refine(Hn.out _ _).mono ?_;rintro e w' ⟨rfl,rfl⟩);go_ret;exact⟨rfl,rfl⟩
def lo2(a b:Int):Int:=if b<a then b else a
def hi2(a b:Int):Int:=if b<a then a else b
def Two(w:World)(g:Nat)(a b:Int):Prop:=Blk w g 3 #[.int .i64 (lo2 a b),.int .i64 (hi2 a b)]
def SortPost(w:World)(g:Nat)(a b:Int)(e:Ending)(w':World):Prop:=e=.returned (.tuple #[])∧Two w' g a b∧w.grownBy w' (some g)
theorem grown_drewN{a w:World}{row:Option Nat}(h:a.grownBy w row)(n:Nat):a.grownBy (w.drewN n) row:=⟨h.os,h.tape,h.output,h.size,h.block⟩
theorem blk_drewN{w:World}{g:Nat}{t:TypeId}{cs:Array Value}(h:Blk w g t cs)(k:Nat):Blk (w.drewN k) g t cs:=h
theorem two_less{w:World}{g:Nat}{a b:Int}(hd:decide (b<a)=true)(h:Blk w g 3 #[.int .i64 b,.int .i64 a]):Two w g a b:=by
 have hba:=of_decide_eq_true hd;unfold Two lo2 hi2;rw[if_pos hba,if_pos hba];exact h
theorem two_same{w:World}{g:Nat}{a b:Int}(hd:decide (b<a)=false)(h:Blk w g 3 #[.int .i64 a,.int .i64 b]):Two w g a b:=by
 have hba:=of_decide_eq_false hd;unfold Two lo2 hi2;rw[if_neg hba,if_neg hba];exact h
theorem ins2_any(g:Nat)(a b:Int)(w:World)(h:Blk w g 3 #[.int .i64 a,.int .i64 b]):
 Calls Tryz.prog 134 #[.slice (some ⟨g,0,none⟩) 2 2,.int .i64 0,.int .i64 2] w (SortPost w g a b):=by
 have hT:∀wr,Two wr g a b=Two wr g a b:=fun _=>rfl
 have h0:=h.at0;have h1:=h.at1;have f0:=h.frozen 0;have f1:=h.frozen 1;have hg:=h.lt;go_enter Tryz.func134,Tryz.ntmps134;go_wp2;go_loopw [6] (fun iv wr=>(iv=.int .i64 1∧wr=w)∨(iv=.int .i64 2∧Two wr g a b∧w.grownBy wr (some g))) (fun iv _=>2-(intOf iv).toNat)
 case atStart=>exact .inl ⟨rfl,rfl⟩
 case round=>
  rcases hrel with⟨rfl,hwr⟩|⟨rfl,hs,hgr⟩
  ·subst hwr;go_wp2;go_loopw [7] (fun jv w2=>(jv=.int .i64 1∧w2=wr)∨(jv=.int .i64 0∧Two w2 g a b∧wr.grownBy w2 (some g))) (fun jv _=>(intOf jv).toNat)
   case atStart=>exact .inl ⟨rfl,rfl⟩
   case round=>
    rcases hrel with⟨rfl,hwr⟩|⟨rfl,hs,hgr⟩
    ·subst hwr
     by_cases hba:b<a
     ·have hd:decide (b<a)=true:=by simpa using hba
      go_wp2;go_quiet ((go_at_call 140;exact Calls.quiet_of_same (less_same _ _ _)));go_wp2;go_region;go_wp2;have hs:=two_less hd (((blk_drewN h (nq+1)).set_ 1 (.int .i64 a)).set_ 0 (.int .i64 b));go_roundw
      case rel=>exact .inr ⟨rfl,hs,((grown_drewN (World.grownBy.refl _ _) _).trans (uA _ ⟨g,1,none⟩ _)).trans (uA _ ⟨g,0,none⟩ _)⟩
      case measure=>simp[intOf]
     ·have hd:decide (b<a)=false:=by simpa using hba
      go_wp2;go_quiet ((go_at_call 140;exact Calls.quiet_of_same (less_same _ _ _)));go_wp2;go_roundw
      case rel=>exact .inr ⟨rfl,two_same hd (blk_drewN h _),grown_drewN (World.grownBy.refl _ _) _⟩
      case measure=>simp[intOf]
    ·go_wp2;go_quiet (fail);go_wp2;go_roundw
     case rel=>exact .inr ⟨rfl,hs,grown_drewN hgr _⟩
     case measure=>simp[intOf]
  ·go_wp2;go_end0;exact⟨rfl,hs,hgr⟩
def SomeInt(w:World)(e:Ending)(w':World):Prop:=∃k:Int,e=.returned (.int .i64 k)∧w=w'
theorem len64_2(w:World):Calls Tryz.prog 144 #[.int .u64 2] w (SomeInt w):=by
 go_enter Tryz.func144,Tryz.ntmps144;go_wp2;go_ret;exact⟨_,rfl,rfl⟩
theorem len2(w:World):Calls Tryz.prog 106 #[.int .u64 2] w (SomeInt w):=by
 have h:=len64_2;have H:=eh h;clear h;go_enter Tryz.func106,Tryz.ntmps106;go_wp2_with fail;refine(H.out _).mono ?_;rintro e w' ⟨k,rfl,rfl⟩;go_wp2;go_ret;exact⟨_,rfl,rfl⟩
theorem pdq2_any(g:Nat)(a b:Int)(k:Int)(w:World)(h:Blk w g 3 #[.int .i64 a,.int .i64 b]):
 Calls Tryz.prog 105 #[.slice (some ⟨g,0,none⟩) 2 2,.int .i64 0,.int .i64 2,.int .i64 k] w (SortPost w g a b):=by
 go_enter Tryz.func105,Tryz.ntmps105;go_wp2;refine wp_loop_rounds 1 ?_;rw[rounds_succ];go_wp2_with fail;refine(ins2_any g a b _ h).mono ?_;rintro e w' ⟨rfl,h1,h2⟩;go_wp2;exact bodyPost_ret (v:=.tuple #[]) (by simp[results,Tryz.results105]) rfl ⟨rfl,h1,h2⟩
theorem sort2_any(g:Nat)(a b:Int)(w:World)(h:Blk w g 3 #[.int .i64 a,.int .i64 b]):
 Calls Tryz.prog 67 #[.slice (some ⟨g,0,none⟩) 2 2] w (SortPost w g a b):=by
 have hp:=fun k W hW=>pdq2_any g a b k W hW
 have Hp:=eh hp;clear hp;go_enter Tryz.func67,Tryz.ntmps67;go_wp2_with fail;refine(len2 _).mono ?_;rintro e w' ⟨k,rfl,rfl⟩;go_wp2_with fail;refine(Hp.out k _ h).mono ?_;rintro e w' ⟨rfl,h1,h2⟩;go_wp2
 first
  |(go_end0;exact⟨rfl,h1,h2⟩)
  |exact bodyPost_ret (v:=.tuple #[]) (by simp[results,Tryz.results67]) rfl ⟨rfl,h1,h2⟩
def cmp2(x y:Int):List Int:=if y=x then[x]else[x,y]
def CompPost(w:World)(g:Nat)(x y:Int)(e:Ending)(w':World):Prop:=∃n,n≤2∧e=.returned (.slice (some ⟨g,0,none⟩) n 2)∧Rd w' (g+1) 1 (some ⟨g,0,none⟩) n (ints (cmp2 x y))∧w.grownBy w' (some g)
theorem rd_pre{w:World}{g:Nat}{t:TypeId}{xs ys:List Value}(h:Blk w g t ⟨xs++ys⟩){B size n:Nat}(hl:xs.length=n*size)(hB:g<B):Rd w B size (some ⟨g,0,none⟩) n xs:=
 ⟨hl,fun _=>⟨g,0,rfl,hB,fun j u hu=>by
  have hj:=(List.getElem?_eq_some_iff.1 hu).1;rw[Nat.zero_add,h.cell];simpa[List.getElem?_append_left hj]using hu⟩⟩
theorem zeroInt(w:World):(zeroValue 3).run Tryz.prog w=.ok (.int .i64 0) w:=by kernel_rfl
theorem clear2{g:Nat}{x y:Int}{w:World}(h:Blk w g 3 #[.int .i64 x,.int .i64 y])(ty:TypeId)(k:Nat):
 (Builtin.clear_ #[38] ty #[.slice (some ⟨g,1,none⟩) 1 1]).run Tryz.prog (w.drewN k)=.ok (.tuple #[]) ((w.drewN k).setCells g 1 [.int .i64 0]):=
 Lib.run_clear_slice (w.drewN k) 38 3 ty (.int .i64 0) Tryz.underlying38 zeroInt rfl rfl g 1 1 1 (by omega) (fun j hj=>by
  obtain rfl:j=0:=by omega
  rw[(blk_drewN h k).cell];rfl) (fun j hj=>(blk_drewN h k).frozen _)
theorem compact2_any(g:Nat)(x y:Int)(w:World)(h:Blk w g 3 #[.int .i64 x,.int .i64 y]):
 Calls Tryz.prog 68 #[.slice (some ⟨g,0,none⟩) 2 2] w (CompPost w g x y):=by
 have h0:=h.at0;have h1:=h.at1;have f0:=h.frozen 0;have f1:=h.frozen 1;have hg:=h.lt
 by_cases hxy:y=x
 ·have hc:cmp2 x y=[x]:=if_pos hxy;have hd:(y==x)=true:=by simp[hxy]
  have hclr:=clear2 h;have Hc:=eh hc;clear hc hxy;go_enter Tryz.func68,Tryz.ntmps68;go_wp2;refine wp_loop_rounds 1 ?_;rw[rounds_succ];go_wp2;go_quiet (fail);go_wp2;refine wp_loop_rounds 1 ?_;rw[rounds_succ];go_wp2;go_ret;have hs:=(blk_drewN h nq).set_ 1 (.int .i64 0);exact⟨1,by omega,rfl,by rw[Hc.out];exact rd_pre (xs:=[.int .i64 x]) (ys:=[.int .i64 0]) hs rfl (by omega),(grown_drewN (World.grownBy.refl _ _) nq).trans (uA _ ⟨g,1,none⟩ _)⟩
 ·have hc:cmp2 x y=[x,y]:=if_neg hxy;have hd:(y==x)=false:=by simp[hxy]
  have Hc:=eh hc;clear hc hxy;go_enter Tryz.func68,Tryz.ntmps68;go_wp2;go_loopw [3] (fun kv wr=>(kv=.int .i64 1∧wr=w)∨(kv=.int .i64 2∧Blk wr g 3 #[.int .i64 x,.int .i64 y]∧w.grownBy wr (some g))) (fun kv _=>2-(intOf kv).toNat)
  case atStart=>exact .inl ⟨rfl,rfl⟩
  case round=>
   rcases hrel with⟨rfl,hwr⟩|⟨rfl,hs,hgr⟩
   ·subst hwr;go_wp2;go_quiet (fail);go_wp2;go_roundw
    case rel=>exact .inr ⟨rfl,blk_drewN h _,grown_drewN (World.grownBy.refl _ _) _⟩
    case measure=>simp[intOf]
   ·go_wp2;go_ret;exact⟨2,by omega,rfl,by rw[Hc.out];exact Blk.rd hs rfl (by omega),hgr⟩
def RdS(w:World)(S:Nat→Prop)(size:Nat)(A:Option Addr)(n:Nat)(xs:List Value):Prop:=
 xs.length=n*size∧(0<n→∃b off,A=some ⟨b,off,none⟩∧S b∧∀j u,xs[j]? =some u→w.cell? ⟨b,off+j,none⟩=some u)
def Kept(S:Nat→Prop)(w w':World):Prop:=∀p:Addr,S p.block→w'.cell? p=w.cell? p
section
variable {w w':World} {S S':Nat→Prop} {B size n:Nat} {A:Option Addr} {xs:List Value}
theorem Kept.refl(S:Nat→Prop)(w:World):Kept S w w:=fun _ _=>rfl
theorem Kept.trans{w2:World}(h1:Kept S w w')(h2:Kept S w' w2):Kept S w w2:=fun p hp=>(h2 p hp).trans (h1 p hp)
theorem Kept.sub(h:Kept S w w')(hs:∀b,S' b→S b):Kept S' w w':=fun p hp=>h p (hs _ hp)
theorem Kept.of_below(hb:Below B w w')(hs:∀b,S b→b<B):Kept S w w':=fun _ hp=>hb.cell (hs _ hp)
theorem RdS.rd(h:RdS w S size A n xs)(hs:∀b,S b→b<B):Rd w B size A n xs:=
 ⟨h.1,fun hn=>by
  obtain⟨b,off,e,hb,hc⟩:=h.2 hn;exact⟨b,off,e,hs b hb,hc⟩⟩
theorem RdS.keep(h:RdS w S size A n xs)(hk:Kept S w w'):RdS w' S size A n xs:=
 ⟨h.1,fun hn=>by
  obtain⟨b,off,e,hb,hc⟩:=h.2 hn;exact⟨b,off,e,hb,fun j u hu=>(hk _ hb).trans (hc j u hu)⟩⟩
theorem RdS.more(h:RdS w S size A n xs)(hs:∀b,S b→S' b):RdS w S' size A n xs:=
 ⟨h.1,fun hn=>by
  obtain⟨b,off,e,hb,hc⟩:=h.2 hn;exact⟨b,off,e,hs b hb,hc⟩⟩
theorem RdS.nil(w:World)(S:Nat→Prop)(size:Nat)(A:Option Addr):RdS w S size A 0 []:=⟨by simp,fun h=>absurd h (by omega)⟩
end
structure Shape(α:Type) where
 size:Nat
 H:Type
 cell:α→H→List Value
 len:∀a h,(cell a h).length=size
 inner:(Nat→Prop)→World→α→H→Prop
 keep:∀{S:Nat→Prop} {w w':World} {a:α} {h:H},inner S w a h→Kept S w w'→inner S w' a h
 more:∀{S S':Nat→Prop} {w:World} {a:α} {h:H},inner S w a h→(∀b,S b→S' b)→inner S' w a h
def Shape.cells{α:Type}(s:Shape α)(l:List α)(hs:List s.H):List Value:=(l.zip hs).flatMap fun x=>s.cell x.1 x.2
def RdL{α:Type}(s:Shape α)(w:World)(S:Nat→Prop)(A:Option Addr)(l:List α):Prop:=
 ∃hs:List s.H,hs.length=l.length∧RdS w S s.size A l.length (s.cells l hs)∧∀(k:Nat) (a:α) (h:s.H),l[k]? =some a→hs[k]? =some h→s.inner S w a h
section
variable {α:Type} {s:Shape α} {w w':World} {S S':Nat→Prop} {A:Option Addr} {l:List α}
theorem Shape.zip_at{hs:List s.H}(h1:hs.length=l.length){k:Nat}{a:α}{h:s.H}(hk:l[k]? =some a)(hh:hs[k]? =some h){j:Nat}(hj:j<s.size):(s.cells l hs)[k*s.size+j]? =(s.cell a h)[j]? :=by
 have hz:(l.zip hs)[k]? =some (a,h):=by rw[List.getElem?_zip_eq_some];exact⟨hk,hh⟩
 exact flat_at (fun x:α×s.H=>s.cell x.1 x.2) s.size (fun x=>s.len _ _) (l.zip hs) k j _ hz hj
theorem RdL.keep(h:RdL s w S A l)(hk:Kept S w w'):RdL s w' S A l:=by
 obtain⟨hs,h1,h2,h3⟩:=h;exact⟨hs,h1,h2.keep hk,fun k a h e1 e2=>s.keep (h3 k a h e1 e2) hk⟩
theorem RdL.more(h:RdL s w S A l)(hs:∀b,S b→S' b):RdL s w S' A l:=by
 obtain⟨hs',h1,h2,h3⟩:=h;exact⟨hs',h1,h2.more hs,fun k a h e1 e2=>s.more (h3 k a h e1 e2) hs⟩
theorem RdL.below{B:Nat}(h:RdL s w S A l)(hb:Below B w w')(hs:∀b,S b→b<B):RdL s w' S A l:=h.keep (Kept.of_below hb hs)
theorem RdL.nil(s:Shape α)(w:World)(S:Nat→Prop)(A:Option Addr):RdL s w S A []:=⟨[],rfl,by simpa[Shape.cells]using RdS.nil w S s.size A,fun k a h e=>by simp at e⟩
theorem RdL.at(h:RdL s w S A l){k:Nat}{a:α}(hk:l[k]? =some a):
 ∃b off hd,A=some ⟨b,off,none⟩∧S b∧(∀j u,(s.cell a hd)[j]? =some u→w.cell? ⟨b,off+(k*s.size+j),none⟩=some u)∧s.inner S w a hd:=by
 obtain⟨hs,h1,h2,h3⟩:=h;have hkl:k<l.length:=(List.getElem?_eq_some_iff.1 hk).1;obtain⟨b,off,e,hb,hc⟩:=h2.2 (by omega);have hh:hs[k]? =some (hs[k]'(by omega)):=List.getElem?_eq_getElem (by omega);refine⟨b,off,hs[k]'(by omega),e,hb,fun j u hu=>hc _ u ?_,h3 k a _ hk hh⟩;rw[Shape.zip_at h1 hk hh (by have:=(List.getElem?_eq_some_iff.1 hu).1;rwa [s.len]at this)];exact hu
end
def rowShape:Shape (List Int) where
 size:=1
 H:=Option Addr×Nat
 cell l h:=[.slice h.1 l.length h.2]
 len _ _:=rfl
 inner S w l h:=RdS w S 1 h.1 l.length (ints l)
 keep h hk:=h.keep hk
 more h hs:=h.more hs
structure Vt where
 cls:Int
 fields:List Int
deriving Inhabited
def vtShape:Shape Vt where
 size:=2
 H:=Option Addr×Nat
 cell v h:=[.int .i64 v.cls,.slice h.1 v.fields.length h.2]
 len _ _:=rfl
 inner S w v h:=RdS w S 1 h.1 v.fields.length (ints v.fields)
 keep h hk:=h.keep hk
 more h hs:=h.more hs
structure Nd where
 op:Int
 a:Int
 b:Int
 st:Int
 kind:ByteArray
 n:Int
 args:List Int
deriving Inhabited
def ndShape:Shape Nd where
 size:=7
 H:=Option Addr×Nat
 cell x h:=[.int .i64 x.op,.int .i64 x.a,.int .i64 x.b,.int .i64 x.st,.string x.kind,.int .i64 x.n,.slice h.1 x.args.length h.2]
 len _ _:=rfl
 inner S w x h:=RdS w S 1 h.1 x.args.length (ints x.args)
 keep h hk:=h.keep hk
 more h hs:=h.more hs
structure Bk where
 phis:List Int
 body:List Int
 succ:List Int
 preds:List Int
deriving Inhabited
structure H4 where
 h1:Option Addr×Nat
 h2:Option Addr×Nat
 h3:Option Addr×Nat
 h4:Option Addr×Nat
def bkShape:Shape Bk where
 size:=4
 H:=H4
 cell x h:=[.slice h.h1.1 x.phis.length h.h1.2,.slice h.h2.1 x.body.length h.h2.2,.slice h.h3.1 x.succ.length h.h3.2,.slice h.h4.1 x.preds.length h.h4.2]
 len _ _:=rfl
 inner S w x h:=RdS w S 1 h.h1.1 x.phis.length (ints x.phis)∧RdS w S 1 h.h2.1 x.body.length (ints x.body)∧RdS w S 1 h.h3.1 x.succ.length (ints x.succ)∧RdS w S 1 h.h4.1 x.preds.length (ints x.preds)
 keep h hk:=⟨h.1.keep hk,h.2.1.keep hk,h.2.2.1.keep hk,h.2.2.2.keep hk⟩
 more h hs:=⟨h.1.more hs,h.2.1.more hs,h.2.2.1.more hs,h.2.2.2.more hs⟩
structure Ste where
 mth:Int
 pc:Int
 up:Int
 locals:List Int
 stack:List Int
 virts:List Vt
deriving Inhabited
def steShape:Shape Ste where
 size:=6
 H:=H4
 cell x h:=[.int .i64 x.mth,.int .i64 x.pc,.int .i64 x.up,.slice h.h1.1 x.locals.length h.h1.2,.slice h.h2.1 x.stack.length h.h2.2,.slice h.h3.1 x.virts.length h.h3.2]
 len _ _:=rfl
 inner S w x h:=RdS w S 1 h.h1.1 x.locals.length (ints x.locals)∧RdS w S 1 h.h2.1 x.stack.length (ints x.stack)∧RdL vtShape w S h.h3.1 x.virts
 keep h hk:=⟨h.1.keep hk,h.2.1.keep hk,h.2.2.keep hk⟩
 more h hs:=⟨h.1.more hs,h.2.1.more hs,h.2.2.more hs⟩
structure Fn where
 mth:Int
 entry:Int
 nodes:List Nd
 blocks:List Bk
 states:List Ste
deriving Inhabited
structure RdF(w:World)(S:Nat→Prop)(An Ab As:Option Addr)(f:Fn):Prop where
 nodes:RdL ndShape w S An f.nodes
 blocks:RdL bkShape w S Ab f.blocks
 states:RdL steShape w S As f.states
abbrev fv(An Ab As:Option Addr)(cn cb cs:Nat)(f:Fn):Value:=.agg #[.int .i64 f.mth,.int .i64 f.entry,.slice An f.nodes.length cn,.slice Ab f.blocks.length cb,.slice As f.states.length cs]
section
variable {w w':World} {S S':Nat→Prop} {An Ab As A:Option Addr} {f:Fn}
theorem RdF.keep(h:RdF w S An Ab As f)(hk:Kept S w w'):RdF w' S An Ab As f:=⟨h.nodes.keep hk,h.blocks.keep hk,h.states.keep hk⟩
theorem RdF.more(h:RdF w S An Ab As f)(hs:∀b,S b→S' b):RdF w S' An Ab As f:=⟨h.nodes.more hs,h.blocks.more hs,h.states.more hs⟩
theorem rd_row{l:List (List Int)}(h:RdL rowShape w S A l){k:Nat}(hk:k<l.length):
 ∃b off A1 c1,A=some ⟨b,off,none⟩∧S b∧w.cell? ⟨b,off+k,none⟩=some (.slice A1 (l.getD k []).length c1)∧RdS w S 1 A1 (l.getD k []).length (ints (l.getD k [])):=by
 obtain⟨b,off,hd,e,hb,hc,hi⟩:=h.at (show l[k]? =some (l.getD k []) by simp[hk]);refine⟨b,off,hd.1,hd.2,e,hb,?_,hi⟩;have:=hc 0 _ rfl;simpa[rowShape]using this
theorem rd_nd{l:List Nd}(h:RdL ndShape w S A l){k:Nat}(hk:k<l.length):
 ∃b off A1 c1,A=some ⟨b,off,none⟩∧S b∧w.cell? ⟨b,off+k*7,none⟩=some (.int .i64 (l.getD k default).op)∧w.cell? ⟨b,off+k*7+1,none⟩=some (.int .i64 (l.getD k default).a)∧
  w.cell? ⟨b,off+k*7+2,none⟩=some (.int .i64 (l.getD k default).b)∧w.cell? ⟨b,off+k*7+3,none⟩=some (.int .i64 (l.getD k default).st)∧w.cell? ⟨b,off+k*7+4,none⟩=some (.string (l.getD k default).kind)∧
  w.cell? ⟨b,off+k*7+5,none⟩=some (.int .i64 (l.getD k default).n)∧w.cell? ⟨b,off+k*7+6,none⟩=some (.slice A1 (l.getD k default).args.length c1)∧RdS w S 1 A1 (l.getD k default).args.length (ints (l.getD k default).args):=by
 obtain⟨b,off,hd,e,hb,hc,hi⟩:=h.at (show l[k]? =some (l.getD k default) by simp[hk]);exact⟨b,off,hd.1,hd.2,e,hb,hc 0 _ rfl,hc 1 _ rfl,hc 2 _ rfl,hc 3 _ rfl,hc 4 _ rfl,hc 5 _ rfl,hc 6 _ rfl,hi⟩
theorem rd_bk{l:List Bk}(h:RdL bkShape w S A l){k:Nat}(hk:k<l.length):
 ∃b off A1 c1 A2 c2 A3 c3 A4 c4,A=some ⟨b,off,none⟩∧S b∧w.cell? ⟨b,off+k*4,none⟩=some (.slice A1 (l.getD k default).phis.length c1)∧w.cell? ⟨b,off+k*4+1,none⟩=some (.slice A2 (l.getD k default).body.length c2)∧
  w.cell? ⟨b,off+k*4+2,none⟩=some (.slice A3 (l.getD k default).succ.length c3)∧w.cell? ⟨b,off+k*4+3,none⟩=some (.slice A4 (l.getD k default).preds.length c4)∧
  RdS w S 1 A1 (l.getD k default).phis.length (ints (l.getD k default).phis)∧RdS w S 1 A2 (l.getD k default).body.length (ints (l.getD k default).body)∧RdS w S 1 A3 (l.getD k default).succ.length (ints (l.getD k default).succ)∧RdS w S 1 A4 (l.getD k default).preds.length (ints (l.getD k default).preds):=by
 obtain⟨b,off,hd,e,hb,hc,h1,h2,h3,h4⟩:=h.at (show l[k]? =some (l.getD k default) by simp[hk]);exact⟨b,off,hd.h1.1,hd.h1.2,hd.h2.1,hd.h2.2,hd.h3.1,hd.h3.2,hd.h4.1,hd.h4.2,e,hb,hc 0 _ rfl,hc 1 _ rfl,hc 2 _ rfl,hc 3 _ rfl,h1,h2,h3,h4⟩
theorem rd_vt{l:List Vt}(h:RdL vtShape w S A l){k:Nat}(hk:k<l.length):
 ∃b off A1 c1,A=some ⟨b,off,none⟩∧S b∧w.cell? ⟨b,off+k*2,none⟩=some (.int .i64 (l.getD k default).cls)∧w.cell? ⟨b,off+k*2+1,none⟩=some (.slice A1 (l.getD k default).fields.length c1)∧RdS w S 1 A1 (l.getD k default).fields.length (ints (l.getD k default).fields):=by
 obtain⟨b,off,hd,e,hb,hc,hi⟩:=h.at (show l[k]? =some (l.getD k default) by simp[hk]);exact⟨b,off,hd.1,hd.2,e,hb,hc 0 _ rfl,hc 1 _ rfl,hi⟩
theorem rd_ste{l:List Ste}(h:RdL steShape w S A l){k:Nat}(hk:k<l.length):
 ∃b off A1 c1 A2 c2 A3 c3,A=some ⟨b,off,none⟩∧S b∧w.cell? ⟨b,off+k*6,none⟩=some (.int .i64 (l.getD k default).mth)∧w.cell? ⟨b,off+k*6+1,none⟩=some (.int .i64 (l.getD k default).pc)∧w.cell? ⟨b,off+k*6+2,none⟩=some (.int .i64 (l.getD k default).up)∧
  w.cell? ⟨b,off+k*6+3,none⟩=some (.slice A1 (l.getD k default).locals.length c1)∧w.cell? ⟨b,off+k*6+4,none⟩=some (.slice A2 (l.getD k default).stack.length c2)∧w.cell? ⟨b,off+k*6+5,none⟩=some (.slice A3 (l.getD k default).virts.length c3)∧
  RdS w S 1 A1 (l.getD k default).locals.length (ints (l.getD k default).locals)∧RdS w S 1 A2 (l.getD k default).stack.length (ints (l.getD k default).stack)∧RdL vtShape w S A3 (l.getD k default).virts:=by
 obtain⟨b,off,hd,e,hb,hc,h1,h2,h3⟩:=h.at (show l[k]? =some (l.getD k default) by simp[hk]);exact⟨b,off,hd.h1.1,hd.h1.2,hd.h2.1,hd.h2.2,hd.h3.1,hd.h3.2,e,hb,hc 0 _ rfl,hc 1 _ rfl,hc 2 _ rfl,hc 3 _ rfl,hc 4 _ rfl,hc 5 _ rfl,h1,h2,h3⟩
end
def SortedPost(w:World)(l:List Int)(e:Ending)(w':World):Prop:=∃A' c',e=.returned (.slice A' (sortS l).length c')∧Rd w' w'.heap.size 1 A' (sortS l).length (ints (sortS l))∧Below w.heap.size w w'
theorem own_forms{w:World}{base:Nat}{e:TypeId}{size n c:Nat}{A:Option Addr}{xs:List Value}(h:w.ownsRow base e size (.slice A n c) n xs):(A=none∧n=0∧c=0)∨∃g,A=some ⟨g,0,none⟩∧n≤c∧base≤g∧g<w.heap.size:=by
 rcases h.2 with⟨h0,h1⟩|⟨g,cap,cur,hv,hb,hh,hnc,_⟩
 ·cases h0;exact .inl ⟨rfl,rfl,rfl⟩
 ·cases hv;exact .inr ⟨g,rfl,hnc,hb,(Array.getElem?_eq_some_iff.1 hh).1⟩
theorem infoIntR:(Tryz.prog.info? 3).map (fun i=>(i.zero,i.size,i.bytes))=some (some (.int .i64 0),1,8):=by kernel_rfl
theorem own_drewN{w:World}{base:Nat}{e:TypeId}{size n:Nat}{v:Value}{xs:List Value}(h:w.ownsRow base e size v n xs)(k:Nat):(w.drewN k).ownsRow base e size v n xs:=h
theorem Rd.take{w:World}{B n:Nat}{A:Option Addr}{l:List Int}(h:Rd w B 1 A n (ints l)){k:Nat}(hk:k≤n):Rd w B 1 A k (ints (l.take k)):=by
 have hl:l.length=n:=by simpa[ints]using h.1
 refine⟨by simp[ints];omega,fun h0=>?_⟩;obtain⟨b,off,e,hb,hc⟩:=h.2 (by omega);refine⟨b,off,e,hb,fun j u hu=>hc j u ?_⟩;have hj:j<k:=by
  have:=(List.getElem?_eq_some_iff.1 hu).1;simp[ints]at this;omega
 rw[←hu];simp[ints,List.getElem?_take,hj]
theorem Rd.dropG{w:World}{B n g:Nat}{l:List Int}(h:Rd w B 1 (some ⟨g,0,none⟩) n (ints l)){k:Nat}(hk:k≤n):Rd w B 1 (some ⟨g,k,none⟩) (n-k) (ints (l.drop k)):=by
 have hl:l.length=n:=by simpa[ints]using h.1
 refine⟨by simp[ints];omega,fun h0=>?_⟩;obtain⟨b,off,e,hb,hc⟩:=h.2 (by omega);injection e with e
 injection e with e1 e2
 subst e1 e2;refine⟨g,k,rfl,hb,fun j u hu=>?_⟩;have:=hc (k+j) u (by rw[←hu];simp[ints,List.getElem?_drop])
 rwa [Nat.zero_add]at this
theorem ints_one{u:Value}{l:List Int}(h:u∈ints l):u.oneCell'=true:=by
 obtain⟨x,_,rfl⟩:=List.mem_map.1 h;rfl
theorem ints_rd_at{w:World}{B n:Nat}{A:Option Addr}{l:List Int}(h:Rd w B 1 A n (ints l)){k:Nat}(hk:k<n):∃b off,A=some ⟨b,off,none⟩∧b<B∧w.cell? ⟨b,off+k,none⟩=some (.int .i64 (l[k]?.getD 0)):=uX h hk
theorem sorted_any(A:Option Addr)(c:Nat)(l:List Int)(w:World)(hr:Rd w w.heap.size 1 A l.length (ints l))(hl:l.length≤100000):
 Calls Tryz.prog 110 #[.slice A l.length c] w (SortedPost w l):=by
 have hPP:∀A' c' w' n',n'=(sortS l).length→Rd w' w'.heap.size 1 A' n' (ints (sortS l))→Below w.heap.size w w'→SortedPost w l (.returned (.slice A' n' c')) w':=fun A' c' w' n' e h1 h2=>by subst e;exact⟨A',c',rfl,h1,h2⟩
 have HP:=eh hPP;clear hPP;generalize SortedPost w l=Post at*;obtain⟨ii,hi1,hi2,hi3,hi4⟩:=info_parts infoIntR;have Hi1:=eh hi1;have Hi2:=eh hi2;have Hi3:=eh hi3;have Hi4:=eh hi4;clear hi1 hi2 hi3 hi4;go_enter Tryz.func110,Tryz.ntmps110;go_wp2;go_loopw [3,4] (fun v iv wr=>∃(i:Nat) (A':Option Addr) (c' n:Nat),i≤l.length∧iv=.int .i64 i∧v=.slice A' n c'∧Hid ((sortS (l.take i)).length=n)∧n≤i∧wr.ownsRow w.heap.size 3 1 (.slice A' n c') n (ints (sortS (l.take i)))∧Below w.heap.size w wr) (fun _ iv _=>l.length-(intOf iv).toNat)
 case atStart=>exact⟨0,none,0,0,Nat.zero_le _,rfl,rfl,eh rfl,Nat.le_refl _,World.ownsRow_nil _ _ _ _,Below.refl _ _⟩
 case round=>
  obtain⟨i,A',c',n,hi,rfl,rfl,Hn,hni,hown,hb⟩:=hrel;have hz:=hb.size
  by_cases hlt:i<l.length
  ·obtain⟨b,off,rfl,hbb,x0⟩:=ints_rd_at (hr.below hb (Nat.le_refl _)) hlt;have Hs:=eh (show sortS (l.take (i+1))=insS (sortS (l.take i)) (l[i]?.getD 0) by
    rw[List.take_succ_eq_append_getElem hlt,sortS_snoc,List.getElem?_eq_getElem hlt];rfl)
   generalize l[i]?.getD 0=x at*;generalize sortS (l.take i)=out at*;obtain⟨A2,d2,hA2,hrd⟩:=Rd.of_own hown;injection hA2 with hA2 _ hd2
   subst hA2 hd2;have k0:(0:Int)≤i:=by omega
   have k1:(i:Int)<l.length:=by omega
   go_upto_block 2 with(fail);go_cut [5]from 13 to 29 (fun v wx=>∃k q:Nat,v=.int .i64 k∧k≤n∧Hid (posS out x=k)∧wx=wr.drewN q)
   case first=>
    go_wp2;go_loopw [5] (fun v w2=>∃k q:Nat,v=.int .i64 k∧k≤n∧Hid (∀j,j<k→out[j]?.getD 0<x)∧w2=wr.drewN q) (fun v _=>n-(intOf v).toNat)
    case atStart=>exact⟨0,0,rfl,Nat.zero_le _,eh (fun j hj=>by omega),rfl⟩
    case round=>
     obtain⟨k,q,rfl,hk,Hk,rfl⟩:=hrel;have j0:(0:Int)≤k:=by omega
     by_cases hkn:k<n
     ·obtain⟨bo,oo,rfl,hbo,y0⟩:=ints_rd_at hrd hkn;have j1:(k:Int)<n:=by omega
      have g1:decide (k<n)=true:=by simpa using hkn
      cases hlx:decide (out[k]?.getD 0<x)with
      |true=>
       have Hlx:=eh (of_decide_eq_true hlx);go_wp2;go_quiet (fail);go_wp2;go_roundw
       case rel=>exact⟨k+1,_,by go_num,by omega,eh (fun j hj=>by
        by_cases e:j=k
        ·subst e;exact Hlx.out
        ·exact Hk.out j (by omega)),rfl⟩
       case measure=>simp[intOf];omega
      |false=>
       have Hlx:=eh (of_decide_eq_false hlx);go_wp2;go_quiet (fail);go_wp2;go_meet;exact⟨k,_,rfl,by omega,eh (posS_at (by rw[Hn.out];omega) Hk.out (.inr (by have:=Hlx.out;omega))),by first|rfl|exact World.drewN_drewN _ _ _⟩
     ·have g1:decide (k<n)=false:=by simpa using hkn
      have Hp:=eh (posS_at (out:=out) (x:=x) (k:=k) (by rw[Hn.out];omega) Hk.out (.inl (by rw[Hn.out];omega)));go_wp2;go_quiet (fail);go_wp2;go_meet;exact⟨k,_,rfl,by omega,Hp,by first|rfl|exact World.drewN_drewN _ _ _⟩
   case rest=>
    obtain⟨k,q,rfl,hk,Hp,rfl⟩:=hcut;have hbq:=uC hb q;have hownq:=own_drewN hown q;have hrdq:Rd (wr.drewN q) (wr.drewN q).heap.size 1 A' n (ints out):=hrd.drewN q;have x0q:(wr.drewN q).cell? ⟨b,off+i,none⟩=some (.int .i64 x):=x0;clear hb hown hrd x0;have hzq:w.heap.size≤(wr.drewN q).heap.size:=hz;generalize wr.drewN q=w2 at*;have j0:(0:Int)≤k:=by omega
    have hle:=posS_le out x;have hnn:=Hn.out
    by_cases hyes:out[k]? =some x
    ·have Hr:=eh (show sortS (l.take (i+1))=out by rw[Hs.out];unfold insS;rw[Hp.out,if_pos hyes]);have hkn:k<n:=by have:=(List.getElem?_eq_some_iff.1 hyes).1;omega
     obtain⟨bo,oo,rfl,hbo,y0⟩:=ints_rd_at hrdq hkn;rw[hyes]at y0;simp only[Option.getD_some]at y0;have j1:(k:Int)<n:=by omega
     have g1:decide (k<n)=true:=by simpa using hkn
     clear hyes;go_wp2;go_quiet (fail);go_wp2;go_roundw
     case rel=>exact⟨i+1,_,c',n,by omega,by go_num,rfl,eh (by rw[Hr.out];exact Hn.out),by omega,by rw[Hr.out];exact own_drewN hownq _,uC hbq _⟩
     case measure=>simp[intOf];omega
    ·have Hr:=eh (show sortS (l.take (i+1))=out.take k++[x]++out.drop k by rw[Hs.out];unfold insS;rw[Hp.out,if_neg hyes]);go_upto_region 8 with(fail);go_cut [44]from 30 to 44 (fun v wx=>v=.bool false∧∃r,wx=w2.drewN r)
     case first=>
      by_cases hkn:k<n
      ·obtain⟨bo,oo,rfl,hbo,y0⟩:=ints_rd_at hrdq hkn;have hxy:(out[k]?.getD 0==x)=false:=by
        have hg:out[k]? =some (out[k]'(by omega)):=List.getElem?_eq_getElem _;rw[hg]at hyes;simp only[hg,Option.getD_some,beq_eq_false_iff_ne];exact fun e=>hyes (by rw[e])
       generalize out[k]?.getD 0=y at*;have j1:(k:Int)<n:=by omega
       have g1:decide (k<n)=true:=by simpa using hkn
       clear hyes;go_wp2;go_quiet (fail);go_wp2;go_meet;exact⟨rfl,_,rfl⟩
      ·have g1:decide (k<n)=false:=by simpa using hkn
       clear hyes;go_wp2;go_quiet (fail);go_wp2;go_meet;exact⟨rfl,_,rfl⟩
     case rest=>
      obtain⟨rfl,r,rfl⟩:=hcut;have hb3:=uC hbq r;have hown3:=own_drewN hownq r;have hrd3:Rd (w2.drewN r) (w2.drewN r).heap.size 1 A' n (ints out):=hrdq.drewN r;have x03:(w2.drewN r).cell? ⟨b,off+i,none⟩=some (.int .i64 x):=x0q;clear hbq hownq hrdq x0q hyes Hp Hs;have hz3:w.heap.size≤(w2.drewN r).heap.size:=hzq;go_upto_region 9 with(fail);generalize w2.drewN r=w3 at*;have hmk:∀W:World,(Instr.makeSlice 38 (.int .i64 0) (.int .i64 ((n:Int)+1))).run Tryz.prog W=.ok (.slice (some ⟨W.heap.size,0,none⟩) 0 (n+1)) (W.alloc (.cells (madeCells #[.int .i64 0] (n+1)) 3)):=fun W=>by
       have h:=run_make (P:=Tryz.prog) W 38 3 ii (.int .i64 0) Tryz.underlying38 Hi1.out Hi2.out .i64 .i64 0 ((n:Int)+1) (by omega) (by omega) (by rw[Hi4.out];omega) (by omega);have e1:((n:Int)+1).toNat=n+1:=by omega
       rw[e1,Hi3.out,Nat.mul_one]at h;exact h
      have hmade:=fun W (hW:w3.heap.size≤W.heap.size)=>World.ownsRow_made (base:=w3.heap.size) (e:=3) (size:=1) W (madeCells #[.int .i64 0] (n+1)) (n+1) hW (by unfold maxLen;omega) (by rw[size_madeCells];omega)
      have Hmade:=eh hmade;have Hmk:=eh hmk;have hwrap:IntKind.i64.wrap ((n:Int)+1)=(n:Int)+1:=IntWalk.i64_in _ (by omega);have Hwrap:=eh hwrap;clear hmade hmk hwrap;have hforms:=own_forms hown3;go_cut [6]from 45 to 52 (fun v wx=>∃A5 c5,v=.slice A5 k c5∧wx.ownsRow w3.heap.size 3 1 (.slice A5 k c5) k (ints (out.take k))∧Below w3.heap.size w3 wx)
      case first=>
       rcases hforms with⟨rfl,rfl,rfl⟩|⟨g,rfl,hnc,hgb,hgl⟩
       ·obtain rfl:k=0:=by omega
        have hrt:=hrd3.take hk;have hw1:IntKind.i64.wrap 1=1:=by decide
        have hmk:∀W:World,(Instr.makeSlice 38 (.int .i64 0) (.int .i64 1)).run Tryz.prog W=.ok (.slice (some ⟨W.heap.size,0,none⟩) 0 1) (W.alloc (.cells (madeCells #[.int .i64 0] 1) 3)):=Hmk.out;go_region_law ((refine step_append_rd rfl (.tmp 48) (.tmp 51) 38 rfl w3.heap.size 3 ii _ 8 Tryz.underlying38 Hi1.out Hi2.out Hi3.out Hi4.out rfl (.slice (some ⟨w3.heap.size,0,none⟩) 0 1) 0 [] (by rfl) (Hmade.out _ (by simp)) w3.heap.size none 0 0 (ints (out.take 0)) (by rfl) ((hrt.alloc (Nat.le_refl _) _).drew) (fun u hu=>ints_one hu) (by unfold maxLen;omega) (by omega) (by simp) ?_;intro A5 c5 w5 hown5 hgr5))
        all_goals
         go_wp2;go_meet;have hS5:=((Below.refl w3.heap.size w3).alloc (Nat.le_refl _) (.cells (madeCells #[.int .i64 0] 1) 3)).drew.grown hgr5 (by simp) (fun j hj=>by simp[Value.ownBlock]at hj;omega);simp only[Nat.zero_add,List.nil_append]at hown5;exact⟨A5,c5,by simp,hown5,hS5⟩
       ·have hrt:=hrd3.take hk;have j1:(k:Int)≤n:=by omega
        have j2:(n:Int)≤c':=by omega
        have j3:k≤c':=by omega
        have hmk:=Hmk.out;have hwrap:=Hwrap.out;go_region_law ((refine step_append_rd rfl (.tmp 48) (.tmp 51) 38 rfl w3.heap.size 3 ii _ 8 Tryz.underlying38 Hi1.out Hi2.out Hi3.out Hi4.out rfl (.slice (some ⟨w3.heap.size,0,none⟩) 0 (n+1)) 0 [] (by rfl) (Hmade.out _ (by simp)) w3.heap.size (some ⟨g,0,none⟩) k c' (ints (out.take k)) (by rfl) ((hrt.alloc (Nat.le_refl _) _).drew) (fun u hu=>ints_one hu) (by unfold maxLen;omega) (by omega) (by simp) ?_;intro A5 c5 w5 hown5 hgr5))
        all_goals
         go_wp2;go_meet;have hS5:=((Below.refl w3.heap.size w3).alloc (Nat.le_refl _) (.cells (madeCells #[.int .i64 0] (n+1)) 3)).drew.grown hgr5 (by simp) (fun j hj=>by simp[Value.ownBlock]at hj;omega);simp only[Nat.zero_add,List.nil_append]at hown5;exact⟨A5,c5,by simp,hown5,hS5⟩
      case rest=>
       obtain⟨A5,c5,rfl,hown5,hS5⟩:=hcut;have hz5:=hS5.size;have x05:=(hS5.cell (p:=⟨b,off+i,none⟩) (show b<w3.heap.size by omega)).trans x03;have hb5:=hb3.trans (hS5.mono hz3);go_upto_region 11 with(at_builtin
                                                                                                                                                                                                        go_loud (refine wpList_append_rd rfl (.tmp 53) (.tmp 58) 38 rfl w3.heap.size 3 ii _ 8 Tryz.underlying38 Hi1.out Hi2.out Hi3.out Hi4.out rfl (.slice A5 k c5) k (ints (out.take k)) rfl (hown5.alloc _) _ _ 1 1 (ints [x]) rfl (Blk.rd (xs:=ints [x]) (Blk.new _ _ _) rfl (Nat.lt_succ_self _)) (fun u hu=>ints_one hu) (by unfold maxLen;omega) (by omega) (by simp;omega) ?_);intro A6 c6 w6 hown6 hgr6)
       have hS6:=(hS5.alloc hz5 (.cells #[.int .i64 x] 3)).grown hgr6 (by simp;omega) (fun j hj=>(hown5.lt j hj).1);have hz6:=hS6.size;have hb6:=hb3.trans (hS6.mono hz3);clear hown5 hgr6 hS5 hb5 x05 hz5;have hlen:(out.take k++[x]++out.drop k).length=k+1+(n-k):=by simp;omega
       have Hlen:=eh hlen;have hxs:ints (out.take k)++ints [x]++ints (out.drop k)=ints (out.take k++[x]++out.drop k):=by simp[ints]
       have Hxs:=eh hxs;clear hlen hxs;rcases hforms with⟨rfl,rfl,rfl⟩|⟨g,rfl,hnc,hgb,hgl⟩
       ·obtain rfl:k=0:=by omega
        have hd0:out.drop 0=[]:=by have:=hnn;cases out<;>simp_all
        go_wp2_with (at_builtin
                     go_loud (refine wpList_append_rd rfl (.tmp 60) (.tmp 63) 38 rfl w3.heap.size 3 ii _ 8 Tryz.underlying38 Hi1.out Hi2.out Hi3.out Hi4.out rfl (.slice A6 1 c6) 1 _ rfl hown6 0 none 0 0 (ints (out.drop 0)) rfl (by rw[hd0];exact Rd.nil _ _ _ _) (fun u hu=>ints_one hu) (by unfold maxLen;omega) (by omega) hz6 ?_);intro A7 c7 w7 hown7 hgr7)
        go_roundw
        case rel=>exact⟨i+1,A7,c7,1,by omega,by go_num,rfl,eh (by rw[Hr.out,Hlen.out]),by omega,by rw[Hr.out,←Hxs.out];exact hown7.mono hz3,hb6.grown hgr7 hb6.size (fun j hj=>Nat.le_trans hz3 (hown6.lt j hj).1)⟩
        case measure=>simp[intOf];omega
       ·have hrdp:=(hrd3.dropG hk).below hS6 (Nat.le_refl _);have j1:(k:Int)≤n:=by omega
        have j2:(n:Int)≤c':=by omega
        have j3:k≤n:=hk
        by_cases hck:c'=k
        ·have hnk:n=k:=by omega
         have hd0:out.drop k=[]:=by rw[List.drop_eq_nil_iff];omega
         obtain rfl:k=n:=hnk.symm;obtain rfl:c'=k:=hck;go_wp2_with (at_builtin
                                                                    go_loud (refine wpList_append_rd rfl (.tmp 60) (.tmp 63) 38 rfl w3.heap.size 3 ii _ 8 Tryz.underlying38 Hi1.out Hi2.out Hi3.out Hi4.out rfl (.slice A6 (c'+1) c6) (c'+1) _ rfl hown6 0 (some ⟨g,0,none⟩) 0 0 (ints (out.drop c')) rfl (by rw[hd0];exact Rd.nil _ _ _ _) (fun u hu=>ints_one hu) (by unfold maxLen;omega) (by omega) hz6 ?_);intro A7 c7 w7 hown7 hgr7)
         go_roundw
         case rel=>exact⟨i+1,A7,c7,c'+1,by omega,by go_num,rfl,eh (by rw[Hr.out,Hlen.out];omega),by omega,by rw[Hr.out,←Hxs.out];exact hown7.mono hz3,hb6.grown hgr7 hb6.size (fun j hj=>Nat.le_trans hz3 (hown6.lt j hj).1)⟩
         case measure=>simp[intOf];omega
        ·have hck2:¬c'≤k:=by omega
         go_wp2_with (at_builtin
                      go_loud (refine wpList_append_rd rfl (.tmp 60) (.tmp 63) 38 rfl w3.heap.size 3 ii _ 8 Tryz.underlying38 Hi1.out Hi2.out Hi3.out Hi4.out rfl (.slice A6 (k+1) c6) (k+1) _ rfl hown6 w3.heap.size (some ⟨g,k,none⟩) (n-k) (c'-k) (ints (out.drop k)) rfl hrdp (fun u hu=>ints_one hu) (by unfold maxLen;omega) (by omega) hz6 ?_);intro A7 c7 w7 hown7 hgr7)
         go_roundw
         case rel=>exact⟨i+1,A7,c7,k+1+(n-k),by omega,by go_num,rfl,eh (by rw[Hr.out,Hlen.out]),by omega,by rw[Hr.out,←Hxs.out];exact hown7.mono hz3,hb6.grown hgr7 hb6.size (fun j hj=>Nat.le_trans hz3 (hown6.lt j hj).1)⟩
         case measure=>simp[intOf];omega
  ·have e:i=l.length:=by omega
   subst e;have ht:l.take l.length=l:=List.take_length;rw[ht]at hown Hn;obtain⟨A2,d2,hA2,hrd⟩:=Rd.of_own hown;injection hA2 with hA2 _ hd2
   subst hA2 hd2;go_wp2;exact HP.out _ _ _ _ Hn.out.symm hrd hb
theorem zeroCells_one(z0:Value)(k:Nat):(Builtin.zeroCells #[z0] k).toList=List.replicate k z0:=by
 apply List.ext_getElem
 ·simp[Builtin.zeroCells]
 ·intro i h1 h2;simp[Builtin.zeroCells,Nat.mod_one]
abbrev NB:=TypeId×Array Value
theorem alloc_sz(w:World)(o:Obj):(w.alloc o).heap.size=w.heap.size+1:=by simp
def allocs(w:World):List NB→World
 | []=>w
 |o::l=>allocs (w.alloc (.cells o.2 o.1)) l
def Blks(w:World):Nat→List NB→Prop
 |_,[]=>True
 |g,o::l=>Blk w g o.1 o.2∧Blks w (g+1) l
theorem allocs_below{B:Nat}{w0:World}:∀(l:List NB) {w:World},B≤w.heap.size→Below B w0 w→Below B w0 (allocs w l)
 | [],_,_,h=>h
 |o::l,w,hB,h=>allocs_below l (by rw[alloc_sz];omega) (h.alloc hB _)
theorem allocs_size:∀(l:List NB) (w:World),(allocs w l).heap.size=w.heap.size+l.length
 | [],_=>rfl
 |o::l,w=>by unfold allocs;rw[allocs_size l,alloc_sz];simp;omega
theorem allocs_blk{t:TypeId}{cs:Array Value}{g:Nat}:∀(l:List NB) {w:World},Blk w g t cs→Blk (allocs w l) g t cs
 | [],_,h=>h
 |o::l,_,h=>allocs_blk l (h.alloc _)
theorem allocs_blks:∀(l:List NB) (w:World),Blks (allocs w l) w.heap.size l
 | [],_=>trivial
 |o::l,w=>⟨allocs_blk l (Blk.new w o.1 o.2),by
  have h:=allocs_blks l (w.alloc (.cells o.2 o.1));rw[alloc_sz]at h;exact h⟩
structure Made_(w w':World)(l:List NB):Prop where
 blks:Blks w' w.heap.size l
 below:Below w.heap.size w w'
 size:w'.heap.size=w.heap.size+l.length
theorem made_{w w':World}(l:List NB)(h:allocs w l=w'):Made_ w w' l:=h▸⟨allocs_blks l w,allocs_below l (Nat.le_refl _) (Below.refl _ _),allocs_size l w⟩
section
variable {w:World} {S:Nat→Prop}
theorem RdS.blk{g size n:Nat}{t:TypeId}{xs:List Value}(h:Blk w g t ⟨xs⟩)(hS:S g)(hl:xs.length=n*size):RdS w S size (some ⟨g,0,none⟩) n xs:=
 ⟨hl,fun _=>⟨g,0,rfl,hS,fun j u hu=>by rw[Nat.zero_add,h.cell];simpa using hu⟩⟩
def AllZ{α β:Type}(P:α→β→Prop):List α→List β→Prop
 |a::l,b::m=>P a b∧AllZ P l m
 |_,_=>True
theorem AllZ.at{α β:Type}{P:α→β→Prop}:∀{l:List α} {m:List β},AllZ P l m→∀(k:Nat) (a:α) (b:β),l[k]? =some a→m[k]? =some b→P a b
 |a::l,b::m,h,0,_,_,e1,e2=>by simp at e1 e2;subst e1 e2;exact h.1
 |a::l,b::m,h,k+1,_,_,e1,e2=>AllZ.at h.2 k _ _ (by simpa using e1) (by simpa using e2)
 | [],_,_,k,_,_,e1,_=>by simp at e1
 |_::_,[],_,k,_,_,_,e2=>by simp at e2
theorem RdL.blk{α:Type}{s:Shape α}{g:Nat}{t:TypeId}{l:List α}(hs:List s.H){cs:List Value}(h:Blk w g t ⟨cs⟩)(he:s.cells l hs=cs)(hS:S g)(hl:hs.length=l.length)(hi:AllZ (s.inner S w) l hs):RdL s w S (some ⟨g,0,none⟩) l:=by
 subst he;refine⟨hs,hl,RdS.blk h hS ?_,fun k a x e1 e2=>hi.at k a x e1 e2⟩;unfold Shape.cells;rw[List.length_flatMap,show(fun x:α×s.H=>(s.cell x.1 x.2).length)=fun _=>s.size from funext fun x=>s.len _ _];simp[List.length_zip,hl,List.map_const',List.sum_replicate_nat]
end
end Go.Proofs.YtgbgbmdiomhfiaaGreatDoor
namespace Go.Proofs.YtgbgbmdiomhfiaaGreatDoor
open Go.ChangeShapes Go.WideShapes Go.ChangeAt Go.RowKit
theorem own_knob:ownKnob Tryz.prog.godebug=none:=by kernel_rfl
theorem laid_out:laidOutB Tryz.prog=true:=by kernel_rfl
section
variable {H:Type} {enc:TypeId×Value→H} {P:Program}
theorem below_trodAll(hl:laidOutB P=true){W W':World}(hb:Below W.heap.size W W'):∀{ts:List TypeId} {vs:List Value} {ds:List (DataW H)} {ps:List MemPlace},(∀t∈ts,P.readableRec t=true∧t<P.types.size)→
 DataW.TrodAll enc P W 0 (fun _=>true) true ts vs ds ps→(∀x∈ps,x.block<W.heap.size)→DataW.TrodAll enc P W' 0 (fun b=>decide (b<W.heap.size)) true ts vs ds ps
 | [],[],[],_,_,h,_=>h
 |t::ts,v::vs,d::ds,ps,hr,h,hlt=>by
  obtain⟨p,q,h1,h2,rfl⟩:=h;exact⟨p,q,Below.trod hl (hr t List.mem_cons_self).1 (hr t List.mem_cons_self).2 h1 hb (fun x hx=>hlt x (List.mem_append_left _ hx)),below_trodAll hl hb (fun u hu=>hr u (List.mem_cons_of_mem _ hu)) h2 (fun x hx=>hlt x (List.mem_append_right _ hx)),rfl⟩
theorem law_post(hl:laidOutB P=true){f:Func}{s:ChangeSpec}{W W':World}{args:Array Value}{ds:List (DataW H)}{before:List MemPlace}{tb:TypeId}
 (hvars:s.vars=[])(hres:f.resultTypes=#[tb])(htb:P.underlying tb=some .bool)
 (hr:(s.fn H (ds++[])).results=[.lit (.bool true)])(ha:(s.fn H (ds++[])).args=ds)(hv:(s.fn H (ds++[])).vars=[])
 (hread:∀t∈f.params.toList,P.readableRec t=true∧t<P.types.size)
 (hW:DataW.Whole enc P f.params.toList s.vars false W args.toList ds [] before)(hb:Below W.heap.size W W'):
 s.post enc P f false true false false W args (.bool true) W':=by
 have hW':=hW;have hlt:=DataW.Whole.lt hW;obtain⟨p,q,hA,hV,rfl,hfz,hnd⟩:=hW;rw[hvars]at hV;have hq:q=[]:=hV;subst hq;simp only[List.append_nil]at hlt hW';refine⟨ds,[],p,[],p,[],hW',?_,?_,?_,hb.frame _,fun h=>by cases h⟩
 ·rw[hr,hres];exact trodAll_mk1 (shut_bool htb _)
 ·rw[ha];exact below_trodAll hl hb hread hA hlt
 ·rw[hv,hvars];rfl
end
def nmOf:Nat→String
 |1=> "overdrive/api.ErrMany"
 |2=> "overdrive/api.ErrKind"
 |3=> "overdrive/api.ErrIndex"
 |4=> "overdrive/api.ErrTarget"
 |5=> "overdrive/api.ErrShape"
 |6=> "overdrive/api.ErrEnd"
 |7=> "overdrive/api.ErrByte"
 |8=> "overdrive/api.ErrStack"
 |9=> "overdrive/api.ErrMerge"
 |10=> "overdrive/api.ErrFall"
 |11=> "overdrive/api.ErrLimit"
 |12=> "overdrive/api.ErrNode"
 |13=> "overdrive/api.ErrState"
 |_=> "overdrive/api.ErrRoom"
theorem gNamed:∀k,k∈all14→Tryz.prog.globalNamed (nmOf k)=some (gOf k)∧(Tryz.prog.globals[gOf k]?).map (·.type)=some 57:=by
 intro k h;unfold all14 at h
 repeat(first|(cases h;done)|(rcases List.mem_cons.1 h with rfl|h; ·exact⟨by kernel_rfl,by kernel_rfl⟩))
theorem starE: "*" ++ "errors.errorString" = "*errors.errorString" :=by decide
theorem rowE(u:TypeId)(h:Tryz.prog.typeName? 3 u=some "*errors.errorString"):u=317:=
 typeName_ptr_named (nm:= "errors.errorString") (by rw[starE];kernel_rfl) (by kernel_rfl) (by decide) u (by rw[starE];exact h)
theorem cellsES:Tryz.prog.cellsOf 334=1:=by kernel_rfl
theorem cellsS:Tryz.prog.cellsOf 9=1:=by kernel_rfl
inductive LaidIs:List (String×DataW Unit)→List Nat→Prop
 |nil:LaidIs [] []
 |sent {x:String×DataW Unit} {r:List (String×DataW Unit)} {k:Nat} {s:List Nat} (h1:k∈all14) (h2:x.1=nmOf k) (h3:∃text,x.2=.iface "*errors.errorString" (.ptr (.agg [.lit (.string text)]))) (h:LaidIs r s):LaidIs (x::r) (k::s)
 |skip {x:String×DataW Unit} {r:List (String×DataW Unit)} {s:List Nat} (h:LaidIs r s):LaidIs (x::r) s
theorem sents_of_laid{W:World}{L:List (String×DataW Unit)}{S:List Nat}(hi:LaidIs L S):∀(ps:List MemPlace),DataW.LaidVars Tryz.prog W L ps→
 (∀b off,MemPlace.cell b off∈ps→(∃c t,W.heap[b]? =some (.cells c t (0,0)))∧∀u v,W.cell? ⟨b,off,none⟩=some (.iface u v)→Value.okWide Tryz.prog W .any 0 u v)→
 ∃ads:List Addr,ads.length=S.length∧(ads.map fun a=>MemPlace.cell a.block a.off).Sublist ps∧∀(i k:Nat) (a:Addr),S[i]? =some k→ads[i]? =some a→W.cell? ⟨gOf k,0,none⟩=some (sent a)∧a.spot=none:=by
 induction hi with
 |nil=>intro ps _ _;exact⟨[],rfl,by simp,fun i k a h=>by simp at h⟩
 |skip hr ih=>
  rename_i x r s;intro ps hv hrows;obtain⟨n,d⟩:=x;obtain⟨g0,t0,cs0,f0,p0,q0,hg0,ht0,hv0,hd0,hq,rfl⟩:=hv;obtain⟨ads,h1,h2,h3⟩:=ih q0 hq (fun b off hm=>hrows b off (List.mem_append_right _ hm));exact⟨ads,h1,h2.trans (List.sublist_append_right _ _),h3⟩
 |sent hk hn hd hr ih=>
  rename_i x r k s;intro ps hv hrows;obtain⟨n,d⟩:=x;obtain⟨text,hd⟩:=hd;obtain⟨g0,t0,cs0,f0,p0,q0,hg0,ht0,hv0,hd0,hq,rfl⟩:=hv;simp only at hn hd;subst hn hd;obtain⟨hgn,hgt⟩:=gNamed k hk;obtain rfl:=Option.some.inj (hgn.symm.trans hg0);obtain rfl:=Option.some.inj (hgt.symm.trans ht0);obtain⟨l0⟩:=cs0;obtain⟨ads,h1,h2,h3⟩:=ih q0 hq (fun b off hm=>hrows b off (List.mem_append_right _ hm));have ok0:∀u v,l0=[.iface u v]→Value.okWide Tryz.prog W .any 0 u v:=fun u v e=>by
   subst e;exact(hrows (gOf k) 0 (by simp[MemPlace.row])).2 u v (by simpa using World.var?_cell hgn hv0 0)
  obtain⟨a0,s0,rfl,hc0,_,_,rfl⟩:=errorString_of_trod Tryz.underlying57 rowE Tryz.underlying317 Tryz.underlying334 rfl rfl Tryz.underlying9 cellsES cellsS hd0 ok0;refine⟨a0::ads,by simp[h1],?_,fun i k' a hk' ha=>?_⟩
  ·simp only[List.map_cons];have e1:MemPlace.row a0 1=[.cell a0.block a0.off]:=by simp[MemPlace.row]
   rw[e1];exact(List.Sublist.cons_cons _ h2).trans (by simp)
  ·cases i with
   |zero=>
    simp at hk' ha;subst hk' ha;refine⟨by simpa[sent]using World.var?_cell hgn hv0 0,?_⟩;unfold World.cell? at hc0;cases hsp:a0.spot with
    |none=>rfl
    |some q=>
     rw[hsp]at hc0;split at hc0<;>simp at hc0
   |succ i=>exact h3 i k' a (by simpa using hk') (by simpa using ha)
theorem sent_of_laid{W:World}{L:List (String×DataW Unit)}{S:List Nat}(h:laidMetH Tryz.prog L W)(hplain:(L.all fun x=>x.2.handleName?.isNone)=true)(hi:LaidIs L S):∃a,Sent W W.heap.size S a:=by
 rw[MakeChecks.laidMetH_plain _ _ _ hplain]at h;obtain⟨ps,hv,hnd,hrows⟩:=h;obtain⟨ads,h1,h2,h3⟩:=sents_of_laid hi ps hv hrows;have hget:∀k∈S,∃i a,S[i]? =some k∧ads[i]? =some a∧S.idxOf k=i:=fun k hk=>by
  have hlt:S.idxOf k<S.length:=List.idxOf_lt_length_of_mem hk;refine⟨S.idxOf k,ads[S.idxOf k]'(by omega),?_,List.getElem?_eq_getElem (by omega),rfl⟩;rw[List.getElem?_eq_getElem hlt];simp
 refine⟨fun k=>(ads[S.idxOf k]?).getD ⟨0,0,none⟩,⟨fun k hk=>?_,fun k hk=>?_,fun k hk j hj e=>?_⟩⟩
 ·obtain⟨i,a,e1,e2,e3⟩:=hget k hk;obtain⟨q1,q2⟩:=h3 i k a e1 e2;rw[e3,e2];exact⟨block_lt_of_cell q1,q1⟩
 ·obtain⟨i,a,e1,e2,e3⟩:=hget k hk;rw[e3,e2];have hm:MemPlace.cell a.block a.off∈ps:=h2.mem (List.mem_map.2 ⟨a,List.mem_of_getElem? e2,rfl⟩);obtain⟨c,t,hr⟩:=(hrows _ _ hm).1;exact⟨(Array.getElem?_eq_some_iff.1 hr).1,c,t,hr⟩
 ·obtain⟨i,a,e1,e2,e3⟩:=hget k hk;obtain⟨i',a',e1',e2',e3'⟩:=hget j hj;simp only[e3,e2,e3',e2',Option.getD_some]at e;subst e;have hn:(ads.map fun a=>MemPlace.cell a.block a.off).Nodup:=hnd.sublist h2;have q1:(ads.map fun a=>MemPlace.cell a.block a.off)[i]? =some (.cell a.block a.off):=by rw[List.getElem?_map,e2];rfl
  have q2:(ads.map fun a=>MemPlace.cell a.block a.off)[i']? =some (.cell a.block a.off):=by rw[List.getElem?_map,e2'];rfl
  have:=(List.getElem?_inj (List.getElem?_eq_some_iff.1 q1).1 hn).1 (q1.trans q2.symm);subst this;rw[e1]at e1';injection e1'
end Go.Proofs.YtgbgbmdiomhfiaaGreatDoor