/-
 Lib, VMap, See1, SortLib, Sy1, BtP, BtJ, Bt1, Same17.
-/
import Derived.Test.YtgbgbmdiomhfiaaGreatDoorRows
import Derived.WalkKit
import Derived.WalkSpells
import Derived.WalkLawsBesides
import Derived.Maps.OwnSet
import Derived.Maps.OwnOps
import Derived.Maps.AppendAt
import Derived.Lib.Hide
import Derived.BigQuiet
import Derived.Deep.QuietTactic
import Derived.Deep.LoopGhost
import Derived.Deep.DeepFit
import Derived.Deep.DeepMust
import Derived.Outline
import Derived.Deep.AppendLies
import Derived.RegionTactic
import Derived.Defers
import Derived.Laws.Pointers
import Derived.Laws.LoneSync
import Derived.RegionCalls
import Derived.ChangeAlike
import Derived.Lib.TrailingZeros
import Derived.Laws.Bits64b
import Derived.Laws.BitsAllLaws
import Derived.Deep.OwnRows
set_option linter.unusedSimpArgs false
set_option linter.unusedVariables false
set_option maxHeartbeats 4000000
set_option maxRecDepth 100000
namespace Go.Proofs.YtgbgbmdiomhfiaaGreatDoor
open Go.RowKit Go.Maps
theorem eh{p:Prop}(h:p):Hid p:=Lib.hid h
def Rd(w:World)(B size:Nat)(A:Option Addr)(n:Nat)(xs:List Value):Prop:=
 xs.length=n*size∧(0<n→∃b off,A=some ⟨b,off,none⟩∧b<B∧∀j u,xs[j]? =some u→w.cell? ⟨b,off+j,none⟩=some u)
section
variable {w w':World} {B B' size n:Nat} {A:Option Addr} {xs:List Value}
theorem Rd.nil(w:World)(B size:Nat)(A:Option Addr):Rd w B size A 0 []:=⟨by simp,fun h=>absurd h (by omega)⟩
theorem Rd.keep(h:Rd w B size A n xs)(hk:∀p:Addr,p.block<B→w'.cell? p=w.cell? p):Rd w' B size A n xs:=
 ⟨h.1,fun hn=>by
  obtain⟨b,off,e,hb,hc⟩:=h.2 hn;exact⟨b,off,e,hb,fun j u hu=>(hk _ hb).trans (hc j u hu)⟩⟩
theorem Rd.more(h:Rd w B size A n xs)(hB:B≤B'):Rd w B' size A n xs:=
 ⟨h.1,fun hn=>by
  obtain⟨b,off,e,hb,hc⟩:=h.2 hn;exact⟨b,off,e,by omega,hc⟩⟩
theorem Rd.below{C:Nat}(h:Rd w B size A n xs)(hb:Below C w w')(hC:B≤C):Rd w' B size A n xs:=h.keep fun _ hp=>hb.cell (Nat.lt_of_lt_of_le hp hC)
theorem Rd.alloc(h:Rd w B size A n xs)(hB:B≤w.heap.size)(o:Obj):Rd (w.alloc o) B size A n xs:=h.keep fun p hp=>World.cell?_alloc_lt w o p (by omega)
theorem Rd.drew(h:Rd w B size A n xs):Rd w.drew B size A n xs:=h
theorem Rd.of_own{base:Nat}{e:TypeId}{v:Value}(h:w.ownsRow base e size v n xs):∃A c,v=.slice A n c∧Rd w w.heap.size size A n xs:=by
 rcases h.2 with⟨rfl,rfl⟩|⟨g,cap,cur,rfl,_,hh,_⟩
 ·exact⟨none,0,rfl,h.1,fun h=>absurd h (by omega)⟩
 ·refine⟨_,_,rfl,h.1,fun hn=>⟨g,0,rfl,?_,fun j u hu=>?_⟩⟩
  ·exact(Array.getElem?_eq_some_iff.1 hh).1
  ·have:=h.cells (g:=g) rfl j u hu;have e1:(⟨g,0,none⟩:Addr).add j=⟨g,0+j,none⟩:=by
    unfold Addr.add
    by_cases hj:j=0<;>simp[hj]
   rwa [e1]at this
end
def Blk(w:World)(g:Nat)(t:TypeId)(cs:Array Value):Prop:=w.heap[g]? =some (.cells cs t (0,0))
section
variable {w w':World} {g:Nat} {t:TypeId} {cs:Array Value}
theorem Blk.lt(h:Blk w g t cs):g<w.heap.size:=by
 rcases Nat.lt_or_ge g w.heap.size with hlt|hge
 ·exact hlt
 ·unfold Blk at h;rw[Array.getElem?_eq_none hge]at h;cases h
theorem Blk.cell(h:Blk w g t cs)(i:Nat):w.cell? ⟨g,i,none⟩=cs[i]? :=cell_of_row w g i cs t (0,0) h
theorem Blk.frozen(h:Blk w g t cs)(i:Nat):w.frozen? ⟨g,i,none⟩=false:=frozen_of_row w g i cs t h
theorem Blk.new(w:World)(t:TypeId)(cs:Array Value):Blk (w.alloc (.cells cs t)) w.heap.size t cs:=heap_alloc_new w _
theorem Blk.newAt{w:World}{g:Nat}(hg:w.heap.size=g)(t:TypeId)(cs:Array Value):Blk (w.alloc (.cells cs t)) g t cs:=by subst hg;exact heap_alloc_new w _
theorem Blk.drew(h:Blk w g t cs):Blk w.drew g t cs:=h
theorem Blk.alloc(h:Blk w g t cs)(o:Obj):Blk (w.alloc o) g t cs:=(Below.heap_alloc w o g h.lt).trans h
theorem Blk.set_(h:Blk w g t cs)(i:Nat)(u:Value):Blk (w.setCell ⟨g,i,none⟩ u) g t (cs.setIfInBounds i u):=by
 unfold Blk at h⊢;simp[World.setCell,Array.getElem?_modify,h]
theorem Blk.far(h:Blk w g t cs){p:Addr}(hp:g≠p.block)(u:Value):Blk (w.setCell p u) g t cs:=(Below.heap_setCell w p u g hp).trans h
theorem Blk.below{B:Nat}(h:Blk w g t cs)(hb:Below B w w')(hg:g<B):Blk w' g t cs:=(hb.block g hg).trans h
theorem Blk.grown{row:Option Nat}(h:Blk w g t cs)(hb:w.grownBy w' row)(hg:some g≠row):Blk w' g t cs:=(hb.block g h.lt hg).trans h
theorem Blk.ne_{g':Nat}{t':TypeId}{cs':Array Value}(h:Blk w g t cs)(h':Blk w g' t' cs')(hne:t≠t'):g≠g':=by
 rintro rfl;unfold Blk at h h';rw[h]at h';injection h' with h'
 injection h' with _ ht
 exact hne ht
end
theorem Blk.rd{w:World}{g:Nat}{t:TypeId}{xs:List Value}(h:Blk w g t ⟨xs⟩){B size n:Nat}(hl:xs.length=n*size)(hB:g<B):Rd w B size (some ⟨g,0,none⟩) n xs:=
 ⟨hl,fun _=>⟨g,0,rfl,hB,fun j u hu=>by rw[Nat.zero_add,h.cell];simpa using hu⟩⟩
theorem Blk.at0{w:World}{g:Nat}{t:TypeId}{x:Value}{cs:List Value}(h:Blk w g t ⟨x::cs⟩):w.cell? ⟨g,0,none⟩=some x:=h.cell 0
theorem Blk.at1{w:World}{g:Nat}{t:TypeId}{x y:Value}{cs:List Value}(h:Blk w g t ⟨x::y::cs⟩):w.cell? ⟨g,1,none⟩=some y:=h.cell 1
theorem Blk.at2{w:World}{g:Nat}{t:TypeId}{x y z:Value}{cs:List Value}(h:Blk w g t ⟨x::y::z::cs⟩):w.cell? ⟨g,2,none⟩=some z:=h.cell 2
theorem Blk.at3{w:World}{g:Nat}{t:TypeId}{x y z u:Value}{cs:List Value}(h:Blk w g t ⟨x::y::z::u::cs⟩):w.cell? ⟨g,3,none⟩=some u:=h.cell 3
theorem bcell{W w1:World}(hb:Below W.heap.size W w1):(∀b o,b<W.heap.size→w1.cell? ⟨b,o,none⟩=W.cell? ⟨b,o,none⟩)∧(∀b o,b<W.heap.size→w1.frozen? ⟨b,o,none⟩=W.frozen? ⟨b,o,none⟩):=
 ⟨fun b o h=>hb.cell (p:=⟨b,o,none⟩) h,fun b o h=>hb.frozen (p:=⟨b,o,none⟩) h⟩
theorem uC{B:Nat}{a w:World}(h:Below B a w)(n:Nat):Below B a (w.drewN n):=⟨h.os,h.tape,h.output,h.size,h.block⟩
theorem Rd.drewN{w:World}{B size n:Nat}{A:Option Addr}{xs:List Value}(h:Rd w B size A n xs)(k:Nat):Rd (w.drewN k) B size A n xs:=h
structure Elt(P:Program)(e:TypeId)(α:Type) where
 val:α→Value
 lit:α→Lit
 ok:α→Prop
 zero:α
 okz:ok zero
 mkOf:∀a,ok a→plainElem (H:=Unit) P e (val a)=some (.lit (lit a),[])
 inv:∀v z,plainElem (H:=Unit) P e v=some z→∃a,v=val a∧z=(.lit (lit a),[])∧ok a
 inj:∀a b,lit a=lit b→a=b
 hz:∀w,(zeroValue e).run P w=.ok (val zero) w
def wf64(n:Int):Prop:=(Lit.int .i64 n).wf=true
theorem wf64_of{n:Int}(h: -9223372036854775808≤n∧n≤9223372036854775807):wf64 n:=WalkArith.wf_i64 (by omega)
theorem wpList_on{P:Program}{ops:Array Oper}{Q:Exit→Act→World→Prop}{rest:List Oper}{o:Oper}{a:Act}{w:World}(hw:Region.wanted o (yielded ops a.tmps)=true)
 (h:∀K:Act→World→Prop,(∀a w,wpList P ops Q rest a w→K a w)→o.wp P a w K Q):wpList P ops Q (o::rest) a w:=
 wpList_step fun K hK=>by rw[if_pos hw];exact h K hK
section
variable {P:Program} {e k t:TypeId} {α:Type} {E:Elt P e α} {w w':World} {b n:Nat} {f:Int→Option α}
end
section
variable {P:Program} {e k:TypeId} {α:Type} {E:Elt P e α} {w:World} {b n:Nat} {f:Int→Option α} {ops:Array Oper} {rest:List Oper} {o:Oper} {a:Act} {Q:Exit→Act→World→Prop}
end
theorem uA(w:World)(p:Addr)(u:Value):w.grownBy (w.setCell p u) (some p.block):=
 ⟨rfl,rfl,rfl,by simp[World.setCell],fun k _ hne=>Below.heap_setCell _ _ _ _ (fun e=>hne (by rw[e]))⟩
theorem own_slice{w:World}{base:Nat}{e:TypeId}{size n:Nat}{v:Value}{xs:List Value}(h:w.ownsRow base e size v n xs):∃A c,v=.slice A n c:=by
 rcases h.2 with⟨rfl,rfl⟩|⟨g,cap,cur,rfl,_⟩
 ·exact⟨none,0,rfl⟩
 ·exact⟨_,_,rfl⟩
theorem wpList_append_row{P:Program}{w:World}{ops:Array Oper}{rest:List Oper}{o:Oper}{a:Act}{Q:Exit→Act→World→Prop}(hw:Region.wanted o (yielded ops a.tmps)=true)(s x:Operand)(t:TypeId)
 (ho:o.op=.call {callee:=.builtin .append,args:=#[s,x],argTypes:=#[t,t]})
 (base:Nat)(e:TypeId)(z:Value)(size bytes:Nat)(ht:P.underlying t=some (.slice e))(hinfo:(P.info? e).map (fun i=>(i.zero,i.size,i.bytes))=some (some z,size,bytes))(hzs:z.cells.size=size)(hsz:0<size)
 (A:Option Addr)(c n:Nat)(xs:List Value)(hs:a.eval s=.slice A n c)(hown:w.ownsRow base e size (.slice A n c) n xs)
 (g m c2:Nat)(tt:TypeId)(news:List Value)(hx:a.eval x=.slice (some ⟨g,0,none⟩) m c2)(hg:Blk w g tt ⟨news⟩)(hl:news.length=m*size)(h1:∀u∈news,u.oneCell'=true)
 (h63:n+m≤maxLen)(hbytes:(n+m)*bytes≤140737488355328)(hbase:base≤w.heap.size)
 (h:∀A' c' w',w'.ownsRow base e size (.slice A' (n+m) c') (n+m) (xs++news)→w.grownBy w' (Value.slice A n c).ownBlock→((Value.slice A' (n+m) c').ownBlock=(Value.slice A n c).ownBlock∨(Value.slice A' (n+m) c').ownBlock=some w.heap.size)→wpList P ops Q rest (a.put o.dst (.slice A' (n+m) c')) w'):
 wpList P ops Q (o::rest) a w:=by
 refine wpList_on hw fun K hK=>?_
 obtain⟨i,hi,hz,hsize,hby⟩:=info_parts hinfo;obtain⟨v',w',hr,h2,h3,h4,h5⟩:=run_append_own_at (P:=P) w base t o.type e i z size bytes ht hi hz hsize hby hzs hsz (.slice A n c) n xs hown ⟨g,0,none⟩ m c2 news hl (fun j u hj=>by
  have e1:(⟨g,0,none⟩:Addr).add j=⟨g,j,none⟩:=by
   unfold Addr.add
   by_cases hj:j=0<;>simp[hj]
  rw[e1,hg.cell];simpa using hj) h1 h63 hbytes hbase
 obtain⟨A',c',rfl⟩:=own_slice h2;unfold Oper.wp execOp;simp only[ho,resolve,invoke,builtin,Sem.run_bind,Sem.run_pure,Result.andThen_ok,List.map_toArray,List.map_cons,List.map_nil,hs,hx,hr];exact hK _ _ (h A' c' w' h2 h3 h5)
def Rv(v:Value):Option (DataW Value×List MemPlace):=some (.held v,[])
def VMap(P:Program)(w:World)(k:TypeId)(b n:Nat)(f:Int→Option Value):Prop:=
 ∃D:DataW Value,w.ownsMap P k Rv b n D∧∀x,wf64 x→Maps.has D (.int .i64 x)=(f x).isSome∧∀a,f x=some a→∀z,D.atKey (.int .i64 x) z=.held a
def vput(f:Int→Option Value)(x:Int)(a:Value):Int→Option Value:=fun y=>if y=x then some a else f y
section
variable {P:Program} {e k t:TypeId} {w w':World} {b n:Nat} {f:Int→Option Value}
theorem VMap.congr(h:VMap P w k b n f){g:Int→Option Value}(hg:∀x,wf64 x→f x=g x):VMap P w k b n g:=by
 obtain⟨D,h1,h2⟩:=h;exact⟨D,h1,fun x hx=>by rw[←hg x hx];exact h2 x hx⟩
theorem VMap.lt(h:VMap P w k b n f):b<w.heap.size:=let⟨_,h1,_⟩:=h;h1.lt
theorem VMap.kept{row:Option Nat}(h:VMap P w k b n f)(hg:w.grownBy w' row)(hne:some b≠row):VMap P w' k b n f:=by
 obtain⟨D,h1,h2⟩:=h;exact⟨D,h1.kept hg hne,h2⟩
theorem VMap.alloc(h:VMap P w k b n f)(o:Obj):VMap P (w.alloc o) k b n f:=h.kept (World.grownBy_alloc w o none) (by simp)
theorem VMap.drew(h:VMap P w k b n f):VMap P w.drew k b n f:=h
theorem VMap.keep(h:VMap P w k b n f)(hk:w'.heap[b]? =w.heap[b]?):VMap P w' k b n f:=by
 obtain⟨D,⟨es,clock,h0,F,hs,hD⟩,h2⟩:=h;exact⟨D,⟨es,clock,hk.trans h0,F,hs,hD⟩,h2⟩
theorem VMap.below{B:Nat}(h:VMap P w k b n f)(hb:Below B w w')(hB:b<B):VMap P w' k b n f:=h.keep (hb.block b hB)
theorem VMap.ne_blk(h:VMap P w k b n f){g:Nat}{u:TypeId}{cs:Array Value}(hg:Blk w g u cs):b≠g:=by
 rintro rfl;obtain⟨D,⟨es,clock,h0,_⟩,_⟩:=h;unfold Blk at hg;rw[h0]at hg;cases hg
theorem VMap.made(P:Program)(w:World)(k:TypeId):VMap P (w.alloc (.map #[] 0)) k w.heap.size 0 (fun _=>none):=
 ⟨.map [],World.ownsMap_made _ _ _ _,fun x _=>⟨rfl,fun a h=>by cases h⟩⟩
theorem VMap.look(h:VMap P w k b n f)(hk:P.underlying k=some (.int .i64))(ht:P.underlying t=some (.map k e)){z:Value}(hz:(zeroValue e).run P w=.ok z w){x:Int}(hx:wf64 x):
 (Instr.lookup t (.map (some b)) (.int .i64 x) false).run P w=.ok ((f x).getD z) w:=by
 obtain⟨D,h1,h2⟩:=h;obtain⟨v,ps,hrun,hv⟩:=h1.lookup (int_keyed hk) ht hz (zd:=.held z) (zp:=[]) rfl (keyOf_int_mk hk hx);rw[hrun];have hv':(DataW.held v:DataW Value)=D.atKey (.int .i64 x) (.held z):=by
  have:=hv;unfold Rv at this;injection this with this
  exact congrArg Prod.fst this
 obtain⟨g1,g2⟩:=h2 x hx;cases hf:f x with
 |none=>
  rw[hf]at g1;rw[atKey_of_not_has (by simpa using g1)]at hv';injection hv' with hv'
  rw[hv'];rfl
 |some c=>
  rw[g2 c hf]at hv';injection hv' with hv'
  rw[hv'];rfl
theorem VMap.look_ok(h:VMap P w k b n f)(hk:P.underlying k=some (.int .i64))(ht:P.underlying t=some (.map k e)){z:Value}(hz:(zeroValue e).run P w=.ok z w){x:Int}(hx:wf64 x):
 (Instr.lookup t (.map (some b)) (.int .i64 x) true).run P w=.ok (.tuple #[(f x).getD z,.bool (f x).isSome]) w:=by
 obtain⟨D,h1,h2⟩:=h;obtain⟨v,ps,hrun,hv⟩:=h1.look_ok (int_keyed hk) ht hz (zd:=.held z) (zp:=[]) rfl (keyOf_int_mk hk hx);rw[hrun];have hv':(DataW.held v:DataW Value)=D.atKey (.int .i64 x) (.held z):=by
  have:=hv;unfold Rv at this;injection this with this
  exact congrArg Prod.fst this
 obtain⟨g1,g2⟩:=h2 x hx;rw[g1];cases hf:f x with
 |none=>
  rw[hf]at g1;rw[atKey_of_not_has (by simpa using g1)]at hv';injection hv' with hv'
  rw[hv'];rfl
 |some c=>
  rw[g2 c hf]at hv';injection hv' with hv'
  rw[hv'];rfl
theorem VMap.upd(h:VMap P w k b n f)(hk:P.underlying k=some (.int .i64))(ht:P.underlying t=some (.map k e))(hn:n<maxLen){x:Int}(hx:wf64 x)(a:Value):
 ∃w',(Instr.mapUpdate t (.map (some b)) (.int .i64 x) a).run P w=.ok () w'∧VMap P w' k b (n+1) (vput f x a)∧w.grownBy w' (some b):=by
 obtain⟨D,h1,h2⟩:=h;obtain⟨w',hrun,g1,g2⟩:=h1.update (int_keyed hk) ht hn (keyOf_int_mk hk hx) (d:=.held a) (ps:=[]) rfl;refine⟨w',hrun,⟨_,g1,fun y hy=>?_⟩,g2⟩;have hkey:WideAt.IsKeyLit (.int .i64 x):=by simp[WideAt.IsKeyLit]
 by_cases e:y=x
 ·subst e;simp only[vput,if_true];refine⟨by rw[has_put_same h1.isMap hkey];rfl,fun a' ha'=>?_⟩;injection ha' with ha'
  subst ha';exact fun z=>atKey_put_same h1.isMap hkey _ _
 ·have hne:(Lit.int .i64 y)≠(Lit.int .i64 x):=fun h=>e (by injection h)
  simp only[vput,if_neg e];exact⟨by rw[has_put_other hne];exact(h2 y hy).1,fun a' ha' z=>by rw[atKey_put_other hne];exact(h2 y hy).2 a' ha' z⟩
end
section
variable {P:Program} {e k:TypeId} {w:World} {b n:Nat} {f:Int→Option Value} {ops:Array Oper} {rest:List Oper} {o:Oper} {a:Act} {Q:Exit→Act→World→Prop}
theorem wpList_vlook_ok(hw:Region.wanted o (yielded ops a.tmps)=true)(m x:Operand)(t:TypeId)(hop:o.op=Op.lookup t m x true)(hk:P.underlying k=some (.int .i64))(ht:P.underlying t=some (.map k e))
 {z:Value}(hz:(zeroValue e).run P w=.ok z w)(H:VMap P w k b n f)(hm:a.eval m=.map (some b))(y:Int)(hx:a.eval x=.int .i64 y)(hy:wf64 y)(v:Value)(hv:(f y).getD z=v)(s:Bool)(hs:(f y).isSome=s)(hK:wpList P ops Q rest (a.put o.dst (.tuple #[v,.bool s])) w):wpList P ops Q (o::rest) a w:=by
 subst hv hs;refine wpList_on hw fun K' hK'=>?_
 unfold Oper.wp;simp[execOp,hop,hm,hx,H.look_ok hk ht hz hy,Result.andThen];exact hK' _ _ hK
end
theorem uV{a b:Bool}(h:a=b):Ending.returned (.bool a)=.returned (.bool b):=by rw[h]
theorem bare_any(c:Int)(w:World):
 Calls Tryz.prog 69 #[.int .i64 c] w fun e w'=>e=.returned (.agg #[.int .i64 c,.slice none 0 0])∧Below w.heap.size w w':=by
 go_enter Tryz.func69,Tryz.ntmps69;go_wp2;exact bodyPost_ret (v:=.agg #[.int .i64 c,.slice none 0 0]) (by simp[results,Tryz.results69,go_sem]) rfl ⟨rfl,(Below.refl _ _).alloc (Nat.le_refl _) _⟩
theorem none_any(w:World):
 Calls Tryz.prog 73 #[] w fun e w'=>e=.returned (.agg #[.int .i64 0,.slice none 0 0])∧Below w.heap.size w w':=by
 go_enter Tryz.func73,Tryz.ntmps73;go_wp2;exact bodyPost_ret (v:=.agg #[.int .i64 0,.slice none 0 0]) (by simp[results,Tryz.results73,go_sem]) rfl ⟨rfl,(Below.refl _ _).alloc (Nat.le_refl _) _⟩
def ints(l:List Int):List Value:=l.map (Value.int .i64)
theorem uX{w:World}{B n:Nat}{A:Option Addr}{l:List Int}(h:Rd w B 1 A n (ints l)){k:Nat}(hk:k<n):∃b off,A=some ⟨b,off,none⟩∧b<B∧w.cell? ⟨b,off+k,none⟩=some (.int .i64 (l[k]?.getD 0)):=by
 obtain⟨b,off,e,hb,hc⟩:=h.2 (by omega);have hl:l.length=n:=by have:=h.1;simpa[ints]using this
 refine⟨b,off,e,hb,hc k _ ?_⟩;simp[ints,List.getElem?_eq_getElem (show k<l.length by omega)]
def gOf:Nat→Nat
 |1=>1
 |2=>4
 |3=>8
 |4=>7
 |8=>9
 |9=>6
 |10=>5
 |11=>0
 |12=>2
 |13=>3
 |_=>0
def sent(a:Addr):Value:=.iface 317 (.pointer (some a))
structure Sent(w:World)(B:Nat)(S:List Nat)(a:Nat→Addr):Prop where
 cell:∀k∈S,gOf k<B∧w.cell? ⟨gOf k,0,none⟩=some (sent (a k))
 row:∀k∈S,(a k).block<B∧∃cs t,w.heap[(a k).block]? =some (.cells cs t (0,0))
 inj:∀k∈S,∀j∈S,a k=a j→k=j
theorem Sent.below{w w':World}{B C:Nat}{S:List Nat}{a:Nat→Addr}(h:Sent w B S a)(hb:Below C w w')(hC:B≤C):Sent w' B S a:=
 ⟨fun k hk=>⟨(h.cell k hk).1,(hb.cell (p:=⟨gOf k,0,none⟩) (Nat.lt_of_lt_of_le (h.cell k hk).1 hC)).trans (h.cell k hk).2⟩,
  fun k hk=>⟨(h.row k hk).1,by
   obtain⟨hlt,cs,t,hr⟩:=h.row k hk;exact⟨cs,t,(hb.block _ (Nat.lt_of_lt_of_le hlt hC)).trans hr⟩⟩,h.inj⟩
theorem Sent.cellA{w:World}{B:Nat}{S:List Nat}{a:Nat→Addr}(h:Sent w B S a)(hB:B≤w.heap.size){k:Nat}(hk:k∈S)(o:Obj):(w.alloc o).cell? ⟨gOf k,0,none⟩=some (sent (a k)):=
 (World.cell?_alloc_lt w o ⟨gOf k,0,none⟩ (Nat.lt_of_lt_of_le (h.cell k hk).1 hB)).trans (h.cell k hk).2
def errV(a:Nat→Addr):Nat→Value
 |0=>.nilIface
 |k+1=>sent (a (k+1))
def all14:List Nat:=[1,2,3,4,8,9,10,11,12,13]
theorem mem4{k:Nat}(h:1≤k∧k≤4):k∈all14:=by
 obtain⟨h1,h2⟩:=h;have :k=1∨k=2∨k=3∨k=4:=by omega
 rcases this with rfl|rfl|rfl|rfl<;>decide
theorem Rd.cell_add{w:World}{B m:Nat}{ad:Addr}{xs:List Value}(h:Rd w B 1 (some ad) m xs):∀j u,xs[j]? =some u→w.cell? (ad.add j)=some u:=fun j u hu=>by
 have hj:j<xs.length:=(List.getElem?_eq_some_iff.1 hu).1;have hl:=h.1;obtain⟨b,off,e,_,hc⟩:=h.2 (by omega);injection e with e
 subst e;rw[Go.WideShapes.add_plain];exact hc j u hu
theorem run_append_rd{P:Program}(w:World)(base:Nat)(t ty e:TypeId)(i:TypeInfo)(z:Value)(bytes:Nat)(ht:P.underlying t=some (.slice e))(hi:P.info? e=some i)(hz:i.zero=some z)(hs:i.size=1)(hby:i.bytes=bytes)(hzs:z.cells.size=1)
 (v:Value)(n:Nat)(xs:List Value)(hown:w.ownsRow base e 1 v n xs)(B:Nat)(A:Option Addr)(m c:Nat)(news:List Value)(hr:Rd w B 1 A m news)(h1:∀u∈news,u.oneCell'=true)
 (h63:n+m≤maxLen)(hbytes:(n+m)*bytes≤140737488355328)(hbase:base≤w.heap.size):
 ∃A' c' w',(Builtin.append_ #[t,t] ty #[v,.slice A m c]).run P w=.ok (.slice A' (n+m) c') w'∧w'.ownsRow base e 1 (.slice A' (n+m) c') (n+m) (xs++news)∧w.grownBy w' v.ownBlock:=by
 cases A with
 |none=>
  have hm:m=0:=by
   rcases Nat.eq_zero_or_pos m with h0|h0
   ·exact h0
   ·obtain⟨b,off,h,_⟩:=hr.2 h0;cases h
  subst hm;have hn:news=[]:=List.eq_nil_of_length_eq_zero (by simpa using hr.1);subst hn;obtain⟨A',c',rfl⟩:=own_slice hown;refine⟨A',c',w,?_,by simpa using hown,⟨rfl,rfl,rfl,Nat.le_refl _,fun _ _ _=>rfl⟩⟩;rcases hown.2 with⟨h0,h00⟩|⟨g,cap,cur,hv,_,_,hnc,_⟩
  ·cases h0;simp[Builtin.append_,run_underlying ht,sizeOf,typeInfo,hi,Builtin.lenOf,Builtin.firstCells]
  ·cases hv;simp[Builtin.append_,run_underlying ht,sizeOf,typeInfo,hi,Builtin.lenOf,Builtin.firstCells,hnc,storeCells]
 |some ad=>
  obtain⟨v',w',hrun,h2,h3,_,_⟩:=run_append_own_at (P:=P) w base t ty e i z 1 bytes ht hi hz hs hby hzs (by omega) v n xs hown ad m c news (by simpa using hr.1) hr.cell_add h1 h63 hbytes hbase;obtain⟨A',c',rfl⟩:=own_slice h2;exact⟨A',c',w',hrun,h2,h3⟩
section
variable {P:Program} {w:World} {ops:Array Oper} {o:Oper} {a:Act} {Q:Exit→Act→World→Prop}
theorem wp_append_rd{K:Act→World→Prop}(s x:Operand)(t:TypeId)(ho:o.op=.call {callee:=.builtin .append,args:=#[s,x],argTypes:=#[t,t]})
 (base:Nat)(e:TypeId)(i:TypeInfo)(z:Value)(bytes:Nat)(ht:P.underlying t=some (.slice e))(hi:P.info? e=some i)(hz:i.zero=some z)(hs1:i.size=1)(hby:i.bytes=bytes)(hzs:z.cells.size=1)
 (v:Value)(n:Nat)(xs:List Value)(hs:a.eval s=v)(hown:w.ownsRow base e 1 v n xs)(B:Nat)(A:Option Addr)(m c:Nat)(news:List Value)(hx:a.eval x=.slice A m c)(hr:Rd w B 1 A m news)(h1:∀u∈news,u.oneCell'=true)
 (h63:n+m≤maxLen)(hbytes:(n+m)*bytes≤140737488355328)(hbase:base≤w.heap.size)
 (h:∀A' c' w',w'.ownsRow base e 1 (.slice A' (n+m) c') (n+m) (xs++news)→w.grownBy w' v.ownBlock→K (a.put o.dst (.slice A' (n+m) c')) w'):o.wp P a w K Q:=by
 obtain⟨A',c',w',hrun,h2,h3⟩:=run_append_rd (P:=P) w base t o.type e i z bytes ht hi hz hs1 hby hzs v n xs hown B A m c news hr h1 h63 hbytes hbase;unfold Oper.wp execOp;simp only[ho,resolve,invoke,builtin,Sem.run_bind,Sem.run_pure,Result.andThen_ok,List.map_toArray,List.map_cons,List.map_nil,hs,hx,hrun];exact h A' c' w' h2 h3
theorem wpList_append_rd{rest:List Oper}(hw:Region.wanted o (yielded ops a.tmps)=true)(s x:Operand)(t:TypeId)(ho:o.op=.call {callee:=.builtin .append,args:=#[s,x],argTypes:=#[t,t]})
 (base:Nat)(e:TypeId)(i:TypeInfo)(z:Value)(bytes:Nat)(ht:P.underlying t=some (.slice e))(hi:P.info? e=some i)(hz:i.zero=some z)(hs1:i.size=1)(hby:i.bytes=bytes)(hzs:z.cells.size=1)
 (v:Value)(n:Nat)(xs:List Value)(hs:a.eval s=v)(hown:w.ownsRow base e 1 v n xs)(B:Nat)(A:Option Addr)(m c:Nat)(news:List Value)(hx:a.eval x=.slice A m c)(hr:Rd w B 1 A m news)(h1:∀u∈news,u.oneCell'=true)
 (h63:n+m≤maxLen)(hbytes:(n+m)*bytes≤140737488355328)(hbase:base≤w.heap.size)
 (h:∀A' c' w',w'.ownsRow base e 1 (.slice A' (n+m) c') (n+m) (xs++news)→w.grownBy w' v.ownBlock→wpList P ops Q rest (a.put o.dst (.slice A' (n+m) c')) w'):wpList P ops Q (o::rest) a w:=
 wpList_on hw fun _ hK=>wp_append_rd s x t ho base e i z bytes ht hi hz hs1 hby hzs v n xs hs hown B A m c news hx hr h1 h63 hbytes hbase fun A' c' w' h2 h3=>hK _ _ (h A' c' w' h2 h3)
theorem step_append_rd{K:Act→World→Prop}{E:Prop}(hgd:o.guard=none)(s x:Operand)(t:TypeId)(ho:o.op=.call {callee:=.builtin .append,args:=#[s,x],argTypes:=#[t,t]})
 (base:Nat)(e:TypeId)(i:TypeInfo)(z:Value)(bytes:Nat)(ht:P.underlying t=some (.slice e))(hi:P.info? e=some i)(hz:i.zero=some z)(hs1:i.size=1)(hby:i.bytes=bytes)(hzs:z.cells.size=1)
 (v:Value)(n:Nat)(xs:List Value)(hs:a.eval s=v)(hown:w.ownsRow base e 1 v n xs)(B:Nat)(A:Option Addr)(m c:Nat)(news:List Value)(hx:a.eval x=.slice A m c)(hr:Rd w B 1 A m news)(h1:∀u∈news,u.oneCell'=true)
 (h63:n+m≤maxLen)(hbytes:(n+m)*bytes≤140737488355328)(hbase:base≤w.heap.size)
 (h:∀A' c' w',w'.ownsRow base e 1 (.slice A' (n+m) c') (n+m) (xs++news)→w.grownBy w' v.ownBlock→K (a.put o.dst (.slice A' (n+m) c')) w'):
 if Region.wanted o (yielded ops a.tmps)=true then Oper.wp P o a w K Q else E:=by
 have hw:Region.wanted o (yielded ops a.tmps)=true:=by simp[Region.wanted,hgd]
 rw[if_pos hw];exact wp_append_rd s x t ho base e i z bytes ht hi hz hs1 hby hzs v n xs hs hown B A m c news hx hr h1 h63 hbytes hbase h
end
def posS(out:List Int)(x:Int):Nat:=(out.takeWhile (· <x)).length
def insS(out:List Int)(x:Int):List Int:=if out[posS out x]? =some x then out else out.take (posS out x)++[x]++out.drop (posS out x)
def sortS(l:List Int):List Int:=l.foldl insS []
theorem posS_le(out:List Int)(x:Int):posS out x≤out.length:=(List.takeWhile_prefix _).length_le
theorem posS_at:∀{out:List Int} {x:Int} {k:Nat},k≤out.length→(∀j,j<k→out[j]?.getD 0<x)→(k=out.length∨¬out[k]?.getD 0<x)→posS out x=k
 | [],x,k,hk,_,_=>by simp at hk;subst hk;rfl
 |y::out,x,0,_,_,h=>by
  simp at h;unfold posS;rw[List.takeWhile_cons,if_neg (by simpa using h)];rfl
 |y::out,x,k+1,hk,hj,h=>by
  have h0:=hj 0 (by omega);simp at h0;unfold posS;rw[List.takeWhile_cons,if_pos (by simpa using h0),List.length_cons];congr 1;exact posS_at (by simpa using hk) (fun j hjk=>by simpa using hj (j+1) (by omega)) (by simpa using h)
theorem insS_len(out:List Int)(x:Int):(insS out x).length≤out.length+1:=by
 have:=posS_le out x;unfold insS;split
 ·omega
 ·simp;omega
theorem sortS_snoc(l:List Int)(x:Int):sortS (l++[x])=insS (sortS l) x:=by simp[sortS]
theorem sortS_len(l:List Int):(sortS l).length≤l.length:=by
 suffices h:∀(l:List Int) (acc:List Int),(l.foldl insS acc).length≤acc.length+l.length by simpa[sortS]using h l []
 intro l;induction l with
 |nil=>intro acc;simp
 |cons x l ih=>
  intro acc;have h1:=ih (insS acc x);have h2:=insS_len acc x;simp only[List.foldl_cons,List.length_cons];omega
theorem sy_disable(w:World):(callFunc 195 #[]).run Tryz.prog w=.ok (.value (.tuple #[])) w:=run_call_mark0 Tryz.func195 (by kernel_rfl) (by kernel_rfl) (by kernel_rfl) .disable (by kernel_rfl) w
theorem sy_enable(w:World):(callFunc 197 #[]).run Tryz.prog w=.ok (.value (.tuple #[])) w:=run_call_mark0 Tryz.func197 (by kernel_rfl) (by kernel_rfl) (by kernel_rfl) .enable (by kernel_rfl) w
theorem sy_acquire(a:Addr)(w:World):(callFunc 198 #[.pointer (some a)]).run Tryz.prog w=.ok (.value (.tuple #[])) w:=run_call_marked Tryz.func198 (by kernel_rfl) (by kernel_rfl) (by kernel_rfl) .acquire (by kernel_rfl) a w
theorem sy_release(a:Addr)(w:World):(callFunc 200 #[.pointer (some a)]).run Tryz.prog w=.ok (.value (.tuple #[])) w:=run_call_marked Tryz.func200 (by kernel_rfl) (by kernel_rfl) (by kernel_rfl) .releaseMerge (by kernel_rfl) a w
theorem sy_store(a:Addr)(x:Value)(u:FrameMode)(w:World)(hc:w.cell? a=some x)(hz:w.frozen? a=false):
 CallsD Tryz.prog 185 #[.pointer (some a),.bool true] u w fun e u' w'=>u'=u∧(e=.returned (.tuple #[])∧w'=w.drew.setCell a (.int .u32 1)):=by
 have hc':w.drew.cell? a=some x:=by go_simp
 have hz':w.drew.frozen? a=false:=by go_simp
 have hst:=run_call_store (P:=Tryz.prog) Tryz.func193 (by kernel_rfl) (by kernel_rfl) (by kernel_rfl) (by kernel_rfl) (k:=.u32) (y:=1) hc' hz';go_enter_d Tryz.func185,Tryz.ntmps185;go_wp2;go_region_calls
 all_goals(go_end0;exact⟨rfl,rfl⟩)
theorem sy_unlock0(a:Addr)(w:World)(hc:w.cell? a=some (.int .i32 1))(hz:w.frozen? a=false):
 Calls Tryz.prog 192 #[.pointer (some a)] w fun e w'=>e=.returned (.tuple #[])∧w'=w.setCell a (.int .i32 0):=by
 have hd:=sy_disable;have he:=sy_enable;have hr:=sy_release;have hadd:=run_call_add (P:=Tryz.prog) Tryz.func201 (by kernel_rfl) (by kernel_rfl) (by kernel_rfl) .i32 (by kernel_rfl) (y:= -1) (s:=0) hc hz (by simp[go_sem];rfl);have hcv:=run_convert_to_unsafe (P:=Tryz.prog) (src:=307) (dst:=311) Tryz.underlying307 Tryz.underlying311 (by kernel_rfl) hc;go_enter Tryz.func192,Tryz.ntmps192;go_wp2;go_end0;exact⟨rfl,rfl⟩
theorem sy_unlock(a:Addr)(u:FrameMode)(w:World)(hc:w.cell? a=some (.int .i32 1))(hz:w.frozen? a=false):
 CallsD Tryz.prog 184 #[.pointer (some a)] u w fun e u' w'=>u'=u∧(e=.returned (.tuple #[])∧w'=w.setCell a (.int .i32 0)):=by
 go_enter_d Tryz.func184,Tryz.ntmps184;go_wp2_with (go_at_call 192;refine(sy_unlock0 a w hc hz).mono ?_;rintro e w' ⟨rfl,rfl⟩);go_end0;exact⟨rfl,rfl⟩
theorem sy_lock0(a:Addr)(w:World)(hc:w.cell? a=some (.int .i32 0))(hz:w.frozen? a=false):
 Calls Tryz.prog 191 #[.pointer (some a)] w fun e w'=>e=.returned (.tuple #[])∧w'=w.setCell a (.int .i32 1):=by
 have hd:=sy_disable;have he:=sy_enable;have ha:=sy_acquire;have hcas:=run_call_cas_hit (P:=Tryz.prog) Tryz.func196 (by kernel_rfl) (by kernel_rfl) (by kernel_rfl) .i32 (by kernel_rfl) (y:=1) hc hz;have hc':(w.setCell a (.int .i32 1)).cell? a=some (.int .i32 1):=World.cell?_setCell_same w a _ hc;have hcv:=run_convert_to_unsafe (P:=Tryz.prog) (src:=307) (dst:=311) Tryz.underlying307 Tryz.underlying311 (by kernel_rfl) hc';go_enter Tryz.func191,Tryz.ntmps191;go_wp2
 first|go_end0|(simp only[Exit.inBlock,Exit.then];refine bodyPost_ret (results_none rfl _ _ _) rfl ?_)|refine bodyPost_ret (results_none rfl _ _ _) rfl ?_
 exact⟨rfl,rfl⟩
theorem sy_lock(a:Addr)(w:World)(hc:w.cell? a=some (.int .i32 0))(hz:w.frozen? a=false):
 Calls Tryz.prog 183 #[.pointer (some a)] w fun e w'=>e=.returned (.tuple #[])∧w'=w.setCell a (.int .i32 1):=by
 go_enter Tryz.func183,Tryz.ntmps183;go_wp2_with (go_at_call 191;refine(sy_lock0 a w hc hz).mono ?_;rintro e w' ⟨rfl,rfl⟩);go_end0;exact⟨rfl,rfl⟩
theorem sy_load(a:Addr)(d:Int)(w:World)(hc:w.cell? a=some (.int .u32 d)):
 Calls Tryz.prog 174 #[.pointer (some a)] w fun e w'=>e=.returned (.bool (d != 0))∧w'=w:=by
 have hl:=run_call_load (P:=Tryz.prog) Tryz.func182 (by kernel_rfl) (by kernel_rfl) (by kernel_rfl) .u32 (by kernel_rfl) hc;go_enter Tryz.func174,Tryz.ntmps174;go_wp2;go_ret;exact⟨rfl,rfl⟩
theorem sy_do_done(a:Addr)(off:Nat)(d:Int)(hd:¬d=0)(fv:Value)(b:Nat)(w:World)(h0:w.cell? ⟨b,off,none⟩=some (.int .u32 d)):
 Calls Tryz.prog 164 #[.pointer (some ⟨b,off,none⟩),fv] w fun e w'=>e=.returned (.tuple #[])∧w'=w:=by
 have hd':(d != 0)=true:=by simp[hd]
 have hnot:∀(x:Bool) (w:World),(Op.unary .not (.bool x)).run Tryz.prog w=.ok (.bool (!x)) w:=fun _ _=>rfl
 have hl:=sy_load ⟨b,off,none⟩ d w h0;rw[hd']at hl;have Hl:=eh hl;clear hl;go_enter Tryz.func164,Tryz.ntmps164;go_wp2_with (go_at_call 174;refine Hl.out.mono ?_;rintro e w' ⟨rfl,rfl⟩);go_end0;exact⟨rfl,rfl⟩
def SyPost(b off:Nat)(R:World→Prop)(e:Ending)(w':World):Prop:=e=.returned (.tuple #[])∧∃w1,R w1∧w'=(w1.drew.setCell ⟨b,off,none⟩ (.int .u32 1)).setCell ⟨b,off+1,none⟩ (.int .i32 0)
theorem sy_slow(b off F:Nat)(av:Value)(w:World)(R:World→Prop)(h0:w.cell? ⟨b,off,none⟩=some (.int .u32 0))(h1:w.cell? ⟨b,off+1,none⟩=some (.int .i32 0))(f1:w.frozen? ⟨b,off+1,none⟩=false)
 (hF:Calls Tryz.prog F #[av] (w.setCell ⟨b,off+1,none⟩ (.int .i32 1)) (fun e w'=>e=.returned (.tuple #[])∧R w'))(heF:∀args w,(callFunc F args).run Tryz.prog w=.ok (.enter F args) w)
 (hR:∀w',R w'→w'.cell? ⟨b,off,none⟩=some (.int .u32 0)∧w'.cell? ⟨b,off+1,none⟩=some (.int .i32 1)∧w'.frozen? ⟨b,off,none⟩=false∧w'.frozen? ⟨b,off+1,none⟩=false):
 Calls Tryz.prog 175 #[.pointer (some ⟨b,off,none⟩),.func (.func F) #[av] #[]] w (SyPost b off R):=by
 have hl:=sy_load ⟨b,off,none⟩ 0 (w.setCell ⟨b,off+1,none⟩ (.int .i32 1)) ((World.cell?_setCell_other _ ⟨b,off+1,none⟩ ⟨b,off,none⟩ _ (by simp)).trans h0);rw[show((0:Int) != 0)=false from rfl]at hl;have Hl:=eh hl;have Hk:=eh (sy_lock ⟨b,off+1,none⟩ w h1 f1);have HR:=eh hR;have HF:=eh hF;clear hl hR hF;have hnot:∀(x:Bool) (w:World),(Op.unary .not (.bool x)).run Tryz.prog w=.ok (.bool (!x)) w:=fun _ _=>rfl
 go_enter_defers Tryz.func175,Tryz.ntmps175;go_wp2_with (first|(go_at_call 183;refine Hk.out.mono ?_;rintro e w' ⟨rfl,rfl⟩)|(go_at_call 174;refine Hl.out.mono ?_;rintro e w' ⟨rfl,rfl⟩));refine HF.out.mono ?_;rintro e w1 ⟨rfl,hr⟩;obtain⟨r0,r1,z0,z1⟩:=HR.out w1 hr;go_wp2;refine leaves_cons (f:=185) (args:=#[.pointer (some ⟨b,off,none⟩),.bool true]) (by simp) (by simp[go_sem]) ?_;refine(sy_store ⟨b,off,none⟩ (.int .u32 0) .returning _ r0 z0).mono ?_;rintro e u' w'' ⟨rfl,rfl,rfl⟩;refine leaves_cons (f:=184) (args:=#[.pointer (some ⟨b,off+1,none⟩)]) (by simp[settle]) (by simp[go_sem]) ?_;have q1:(w1.drew.setCell ⟨b,off,none⟩ (.int .u32 1)).cell? ⟨b,off+1,none⟩=some (.int .i32 1):=(World.cell?_setCell_other _ ⟨b,off,none⟩ ⟨b,off+1,none⟩ _ (by simp)).trans r1;have q2:(w1.drew.setCell ⟨b,off,none⟩ (.int .u32 1)).frozen? ⟨b,off+1,none⟩=false:=by simpa using z1
 refine(sy_unlock ⟨b,off+1,none⟩ _ _ q1 q2).mono ?_;rintro e u' w'' ⟨rfl,rfl,rfl⟩;simp[Leaves,settle,results,Tryz.results175];exact⟨rfl,w1,hr,rfl⟩
theorem sy_do_first(b off F:Nat)(av:Value)(w:World)(R:World→Prop)(h0:w.cell? ⟨b,off,none⟩=some (.int .u32 0))(h1:w.cell? ⟨b,off+1,none⟩=some (.int .i32 0))(f1:w.frozen? ⟨b,off+1,none⟩=false)
 (hF:Calls Tryz.prog F #[av] (w.setCell ⟨b,off+1,none⟩ (.int .i32 1)) (fun e w'=>e=.returned (.tuple #[])∧R w'))(heF:∀args w,(callFunc F args).run Tryz.prog w=.ok (.enter F args) w)
 (hR:∀w',R w'→w'.cell? ⟨b,off,none⟩=some (.int .u32 0)∧w'.cell? ⟨b,off+1,none⟩=some (.int .i32 1)∧w'.frozen? ⟨b,off,none⟩=false∧w'.frozen? ⟨b,off+1,none⟩=false):
 Calls Tryz.prog 164 #[.pointer (some ⟨b,off,none⟩),.func (.func F) #[av] #[]] w (SyPost b off R):=by
 have hnot:∀(x:Bool) (w:World),(Op.unary .not (.bool x)).run Tryz.prog w=.ok (.bool (!x)) w:=fun _ _=>rfl
 have hl:=sy_load ⟨b,off,none⟩ 0 w h0;rw[show((0:Int) != 0)=false from rfl]at hl;have Hl:=eh hl;have Hs:=eh (sy_slow b off F av w R h0 h1 f1 hF heF hR);clear hl hF hR h0 h1 f1;go_enter Tryz.func164,Tryz.ntmps164;go_wp2_with (first|(go_at_call 174;refine Hl.out.mono ?_;rintro e w' ⟨rfl,rfl⟩)|(go_at_call 175;refine Hs.out.mono ?_;rintro e w' ⟨rfl,hw⟩));go_end0;exact⟨rfl,hw⟩
def bl(x:Nat):List Nat:=(List.range 12).filter x.testBit
def bhas(n x:Nat)(i:Int):Bool:=decide (0≤i∧i<n)&&x.testBit i.toNat
def badd(n x:Nat)(i:Int):Nat:=if 0≤i∧i<n then x|||2^i.toNat else x
def bdel(x:Nat)(i:Int):Nat:=x&&& (18446744073709551615-2^i.toNat)
def lowOk(x:Nat):Bool:=x==0||(bl x==Lib.ctz 64 x::bl (x&&& (x-1))&&decide ((x&&& (x-1))<x))
theorem low_all:(List.range 4096).all lowOk=true:=by kernel_rfl
theorem bl_step{x:Nat}(h:x<4096)(h0:x≠0):bl x=Lib.ctz 64 x::bl (x&&& (x-1))∧(x&&& (x-1))<x:=by
 have:=List.all_eq_true.1 low_all x (List.mem_range.2 h);simpa[lowOk,h0]using this
theorem bl_zero:bl 0=[]:=by simp[bl]
theorem mem_bl{x i:Nat}:i∈bl x↔i<12∧x.testBit i=true:=by simp[bl]
theorem bl_len(x:Nat):(bl x).length≤12:=Nat.le_trans (List.length_filter_le _ _) (by simp)
theorem lt12{n x:Nat}(hn:n≤12)(hx:x<2^n):x<4096:=Nat.lt_of_lt_of_le hx (Nat.pow_le_pow_right (by omega) hn)
theorem bit_of{n x i:Nat}(hx:x<2^n)(h:x.testBit i=true):i<n:=by
 rcases Nat.lt_or_ge i n with h'|h'
 ·exact h'
 ·rw[Nat.testBit_lt_two_pow (Nat.lt_of_lt_of_le hx (Nat.pow_le_pow_right (by omega) h'))]at h;cases h
theorem badd_lt{n x:Nat}{i:Int}(hx:x<2^n):badd n x i<2^n:=by
 unfold badd;split
 ·exact Nat.or_lt_two_pow hx (Nat.pow_lt_pow_right (by omega) (by omega))
 ·exact hx
theorem bdel_lt{n x:Nat}{i:Int}(hx:x<2^n):bdel x i<2^n:=Nat.lt_of_le_of_lt Nat.and_le_left hx
theorem badd_has{n x:Nat}{i:Int}(h:bhas n x i=true):badd n x i=x:=by
 unfold bhas badd at*;simp only[Bool.and_eq_true,decide_eq_true_eq]at h;rw[if_pos h.1];apply Nat.eq_of_testBit_eq;intro j;rw[Nat.testBit_or,Nat.testBit_two_pow]
 by_cases e:i.toNat=j
 ·subst e;simp[h.2]
 ·simp[e]
theorem bits_has(x i:Nat)(hx:x<4096):(bits BinOp.and IntKind.u64 ((x:Int)/2^i) 1==1)=x.testBit i:=by
 have h1:((x:Int)/2^i)=((x/2^i:Nat):Int):=by simp
 have h2:x/2^i<4096:=Nat.lt_of_le_of_lt (Nat.div_le_self _ _) hx;have h3:=bits_and_u64_nat (x/2^i) 1 (by omega) (by omega);rw[h1,show(1:Int)=((1:Nat):Int)from rfl,h3,Nat.testBit,Nat.shiftRight_eq_div_pow,Nat.and_comm];rw[show(1:Nat)&&& x/2^i=x/2^i%2 by rw[Nat.and_comm,Nat.and_one_is_mod]];rcases Nat.mod_two_eq_zero_or_one (x/2^i)with e|e<;>rw[e]<;>rfl
def aal(n x:Nat)(l:List Nat):Nat:=l.foldl (fun x (i:Nat)=>badd n x i) x
section
variable {n x y:Nat} {l:List Nat}
theorem aal_snoc(i:Nat):aal n x (l++[i])=badd n (aal n x l) i:=by simp[aal]
theorem badd_bit(i j:Nat):(badd n x i).testBit j=(x.testBit j||decide (i=j∧i<n)):=by
 unfold badd
 by_cases h:i<n
 ·rw[if_pos (by omega),Nat.testBit_or,Int.toNat_natCast,Nat.testBit_two_pow]
  by_cases e:i=j
  ·subst e;simp[h]
  ·simp[e]
 ·rw[if_neg (by omega)];simp[h]
theorem aal_bit(j:Nat):∀(l:List Nat) (x:Nat),(aal n x l).testBit j=(x.testBit j||decide (j∈l∧j<n))
 | [],x=>by simp[aal]
 |i::l,x=>by
  have h:=aal_bit j l (badd n x i);have e:aal n x (i::l)=aal n (badd n x i) l:=rfl;rw[e,h,badd_bit]
  by_cases e1:i=j
  ·subst e1;by_cases e2:i<n<;>simp[e2]
  ·have :¬j=i:=fun h=>e1 h.symm
   simp[e1,this]
theorem aal_bl(hn:n≤12)(hy:y<2^n):aal n x (bl y)=x|||y:=by
 apply Nat.eq_of_testBit_eq;intro j;rw[aal_bit,Nat.testBit_or];congr 1;cases h:y.testBit j with
 |false=>simp[mem_bl,h]
 |true=>have:=bit_of hy h;simp[mem_bl,h,this];omega
theorem aal_new(i:Nat):(decide (0≤(i:Int)∧(i:Int)<n)&& !bhas n (aal n x l) i||decide (aal n x l≠x))=decide (aal n x (l++[i])≠x):=by
 rw[aal_snoc]
 by_cases hi:0≤(i:Int)∧(i:Int)<n
 ·cases hb:bhas n (aal n x l) i with
  |true=>rw[badd_has hb];simp
  |false=>
   have hne:badd n (aal n x l) i≠x:=fun e=>by
    have h1:(badd n (aal n x l) i).testBit i=true:=by rw[badd_bit];simp;omega
    rw[e]at h1;have h2:(aal n x l).testBit i=true:=by rw[aal_bit,h1];rfl
    unfold bhas at hb;simp[h2]at hb;omega
   simp[hne];omega
 ·have e:badd n (aal n x l) i=aal n x l:=by unfold badd;rw[if_neg hi]
  rw[e,decide_eq_false hi];simp
end
def SetW(w:World)(g gw n x:Nat):Prop:=
 n≤12∧x<2^n∧∃A c,Blk w g 296 #[.int .i64 n,.slice A (if n=0 then 0 else 1) c]∧(0<n→A=some ⟨gw,0,none⟩∧∃cs,Blk w gw 257 ⟨.int .u64 x::cs⟩)
section
variable {w w':World} {g gw n x B:Nat}
theorem SetW.below(h:SetW w g gw n x)(hb:Below B w w')(h1:g<B)(h2:0<n→gw<B):SetW w' g gw n x:=by
 obtain⟨a,b,A,c,d,e⟩:=h;exact⟨a,b,A,c,d.below hb h1,fun hn=>⟨(e hn).1,(e hn).2.choose,(e hn).2.choose_spec.below hb (h2 hn)⟩⟩
theorem SetW.grown{row:Option Nat}(h:SetW w g gw n x)(hb:w.grownBy w' row)(h1:some g≠row)(h2:0<n→some gw≠row):SetW w' g gw n x:=by
 obtain⟨a,b,A,c,d,e⟩:=h;exact⟨a,b,A,c,d.grown hb h1,fun hn=>⟨(e hn).1,(e hn).2.choose,(e hn).2.choose_spec.grown hb (h2 hn)⟩⟩
theorem SetW.lt(h:SetW w g gw n x):g<w.heap.size:=h.2.2.choose_spec.choose_spec.1.lt
theorem SetW.ltw(h:SetW w g gw n x)(hn:0<n):gw<w.heap.size:=(h.2.2.choose_spec.choose_spec.2 hn).2.choose_spec.lt
theorem SetW.put(h:SetW w g gw n x)(hn:0<n){y:Nat}(hy:y<2^n):SetW (w.setCell ⟨gw,0,none⟩ (.int .u64 y)) g gw n y:=by
 obtain⟨a,b,A,c,d,e⟩:=h;obtain⟨e1,cs,e2⟩:=e hn;refine⟨a,hy,A,c,d.far (d.ne_ e2 (by decide)) _,fun _=>⟨e1,cs,?_⟩⟩;simpa using e2.set_ 0 (.int .u64 y)
end
theorem smay_any{w:World}{g gw n x:Nat}(hs:SetW w g gw n x)(i:Int):Calls Tryz.prog 188 #[.pointer (some ⟨g,0,none⟩),.int .i64 i] w fun e w'=>e=.returned (.bool (decide (0≤i∧i<n)))∧w'=w:=by
 obtain⟨hn,-,A,c,hb,-⟩:=hs;have c0:=hb.at0;clear hb
 by_cases h0:0≤i
 ·by_cases h1:i<n
  ·rw[decide_eq_true ⟨h0,h1⟩];go_enter Tryz.func188,Tryz.ntmps188;go_wp2;go_ret;exact⟨rfl,rfl⟩
  ·rw[decide_eq_false (fun h=>h1 h.2)];go_enter Tryz.func188,Tryz.ntmps188;go_wp2;go_ret;exact⟨rfl,rfl⟩
 ·rw[decide_eq_false (fun h=>h0 h.1)];go_enter Tryz.func188,Tryz.ntmps188;go_wp2;go_ret;exact⟨rfl,rfl⟩
theorem shas_any{w:World}{g gw n x:Nat}(hs:SetW w g gw n x)(i:Int):Calls Tryz.prog 189 #[.pointer (some ⟨g,0,none⟩),.int .i64 i] w fun e w'=>e=.returned (.bool (bhas n x i))∧w'=w:=by
 have hm:=smay_any hs i;have Hm:=eh hm;clear hm;unfold bhas;obtain⟨hn,hx,A,c,hb,hw⟩:=hs;have hx2:=lt12 hn hx
 by_cases h:0≤i∧i<n
 ·rw[decide_eq_true h]at Hm⊢;obtain⟨k,rfl⟩:∃k:Nat,i=k:=⟨i.toNat,by omega⟩;obtain⟨rfl,cs,hw⟩:=hw (by omega);rw[if_neg (by omega)]at hb;have c1:=hb.at1;have c0:=hw.at0;have l0:=hw.lt;have hk:k<12:=by omega
  have k1:k/64=0:=by omega
  have k2:(k:Int)%64=k:=by omega
  have k3:(k:Int)/64=0:=by omega
  have HB:=eh (bits_has x k hx2);clear hb hw;go_enter Tryz.func189,Tryz.ntmps189;go_wp2_with (go_at_call 188;refine Hm.out.mono ?_;rintro e w' ⟨rfl,rfl⟩);go_ret;exact⟨by simp;exact HB.out,rfl⟩
 ·rw[decide_eq_false h]at Hm⊢;go_enter Tryz.func189,Tryz.ntmps189;go_wp2_with (go_at_call 188;refine Hm.out.mono ?_;rintro e w' ⟨rfl,rfl⟩);go_ret;exact⟨rfl,rfl⟩
theorem gRefl(w:World)(r:Option Nat):w.grownBy w r:=⟨rfl,rfl,rfl,Nat.le_refl _,fun _ _ _=>rfl⟩
theorem gDrew(w:World)(r:Option Nat):w.grownBy w.drew r:=⟨rfl,rfl,rfl,Nat.le_refl _,fun _ _ _=>rfl⟩
theorem bits_or(x k:Nat)(hx:x<4096)(hk:k<12):bits BinOp.or IntKind.u64 (x:Int) (IntKind.u64.wrap (2^k))=((x|||2^k:Nat):Int):=by
 have h2:2^k<4096:=Nat.lt_of_lt_of_le (Nat.pow_lt_pow_right (by omega) hk) (by decide);have e:(2:Int)^k=((2^k:Nat):Int):=by simp
 generalize 2^k=y at*;have e2:IntKind.u64.wrap ((y:Nat):Int)=((y:Nat):Int):=by rw[IntKind.wrap_u64];omega
 rw[e,e2,bits_or_u64_nat x _ (by omega) (by omega)]
def SAddPost(w:World)(g gw n x:Nat)(i:Int)(e:Ending)(w':World):Prop:=
 e=.returned (.bool (decide (0≤i∧i<n)&& !bhas n x i))∧SetW w' g gw n (badd n x i)∧w.grownBy w' (some gw)
theorem sadd_any{w:World}{g gw n x:Nat}(hs:SetW w g gw n x)(i:Int):Calls Tryz.prog 180 #[.pointer (some ⟨g,0,none⟩),.int .i64 i] w (SAddPost w g gw n x i):=by
 have Hm:=eh (smay_any hs i);have Hh:=eh (shas_any hs i);have HP:=eh (fun r w' (h1:(decide (0≤i∧i<n)&& !bhas n x i)=r) (h2:SetW w' g gw n (badd n x i)) (h3:w.grownBy w' (some gw))=>(show SAddPost w g gw n x i (.returned (.bool r)) w' from⟨by rw[h1],h2,h3⟩));generalize SAddPost w g gw n x i=Post at*
 by_cases h:0≤i∧i<n
 ·cases hb:bhas n x i with
  |true=>
   rw[hb]at Hh;have Hs:=eh (HP.out false w (by rw[hb];simp) (by rw[badd_has hb];exact hs) (gRefl w _));rw[decide_eq_true h]at Hm;clear hs hb HP h;go_enter Tryz.func180,Tryz.ntmps180;go_wp2_with (first|(go_at_call 188;refine Hm.out.mono ?_;rintro e w' ⟨rfl,rfl⟩)|(go_at_call 189;refine Hh.out.mono ?_;rintro e w' ⟨rfl,rfl⟩));exact Hs.out
  |false=>
   rw[hb]at Hh;have hn:=hs.1;have hx2:=lt12 hn hs.2.1;have hlt:=badd_lt (i:=i) hs.2.1;have hpt:=hs.put (by omega) hlt;obtain⟨k,rfl⟩:∃k:Nat,i=k:=⟨i.toNat,by omega⟩;have hk:k<12:=by omega
   have Hs:=eh (fun y (hy:y=badd n x k)=>(HP.out true _ (by rw[hb,decide_eq_true h];rfl) (show SetW ((w.drew).setCell ⟨gw,0,none⟩ (.int .u64 y)) g gw n (badd n x k) by subst hy;exact hpt) ((gDrew w _).trans (uA w.drew ⟨gw,0,none⟩ _))));rw[decide_eq_true h]at Hm;obtain⟨-,-,A,c,hB,hw⟩:=hs;obtain⟨rfl,cs,hw⟩:=hw (by omega);rw[if_neg (by omega)]at hB;have c1:=hB.at1;have c0:=hw.at0;have f0:=hw.frozen 0;have l0:=hw.lt;have k1:k/64=0:=by omega
   have k2:(k:Int)%64=k:=by omega
   have k3:(k:Int)/64=0:=by omega
   have ho:=bits_or x k hx2 hk;have Hbx:=eh (show x|||2^k=badd n x k by unfold badd;rw[if_pos h];rfl);clear hb HP h hpt hB hw hlt;go_enter Tryz.func180,Tryz.ntmps180;go_wp2_with (first|(go_at_call 188;refine Hm.out.mono ?_;rintro e w' ⟨rfl,rfl⟩)|(go_at_call 189;refine Hh.out.mono ?_;rintro e w' ⟨rfl,rfl⟩));go_region;go_wp2;exact Hs.out _ Hbx.out
 ·have Hs:=eh (HP.out false w (by rw[decide_eq_false h];rfl) (by unfold badd;rw[if_neg h];exact hs) (gRefl w _));rw[decide_eq_false h]at Hm;clear hs HP h;go_enter Tryz.func180,Tryz.ntmps180;go_wp2_with (first|(go_at_call 188;refine Hm.out.mono ?_;rintro e w' ⟨rfl,rfl⟩)|(go_at_call 189;refine Hh.out.mono ?_;rintro e w' ⟨rfl,rfl⟩));exact Hs.out
theorem bits_del(x k:Nat)(hx:x<4096)(hk:k<12):bits BinOp.andNot IntKind.u64 (x:Int) (IntKind.u64.wrap (2^k))=((bdel x k:Nat):Int):=by
 have h2:2^k<4096:=Nat.lt_of_lt_of_le (Nat.pow_lt_pow_right (by omega) hk) (by decide);have e:(2:Int)^k=((2^k:Nat):Int):=by simp
 unfold bdel;rw[Int.toNat_natCast];generalize 2^k=y at*;have e2:IntKind.u64.wrap ((y:Nat):Int)=((y:Nat):Int):=by rw[IntKind.wrap_u64];omega
 rw[e,e2,u64_andNot_nat x _ (by omega) (by omega)]
def SDropPost(w:World)(g gw n x:Nat)(i:Int)(e:Ending)(w':World):Prop:=
 e=.returned (.bool (bhas n x i))∧SetW w' g gw n (if bhas n x i=true then bdel x i else x)∧w.grownBy w' (some gw)
theorem sdrop_any{w:World}{g gw n x:Nat}(hs:SetW w g gw n x)(i:Int):Calls Tryz.prog 186 #[.pointer (some ⟨g,0,none⟩),.int .i64 i] w (SDropPost w g gw n x i):=by
 have Hh:=eh (shas_any hs i);have HP:=eh (fun r w' (h1:bhas n x i=r) (h2:SetW w' g gw n (if r=true then bdel x i else x)) (h3:w.grownBy w' (some gw))=>(show SDropPost w g gw n x i (.returned (.bool r)) w' from⟨by rw[h1],by rw[h1];exact h2,h3⟩));generalize SDropPost w g gw n x i=Post at*;cases hb:bhas n x i with
 |false=>
  rw[hb]at Hh;have Hs:=eh (HP.out false w hb hs (gRefl w _));clear hs hb HP;go_enter Tryz.func186,Tryz.ntmps186;go_wp2_with (go_at_call 189;refine Hh.out.mono ?_;rintro e w' ⟨rfl,rfl⟩);exact Hs.out
 |true=>
  rw[hb]at Hh;have h:0≤i∧i<n:=by unfold bhas at hb;simp at hb;exact hb.1
  have hn:=hs.1;have hx2:=lt12 hn hs.2.1;have hpt:=hs.put (by omega) (bdel_lt (i:=i) hs.2.1);obtain⟨k,rfl⟩:∃k:Nat,i=k:=⟨i.toNat,by omega⟩;have hk:k<12:=by omega
  have Hs:=eh (HP.out true _ hb (show SetW ((w.drew).setCell ⟨gw,0,none⟩ (.int .u64 (bdel x k))) g gw n (bdel x k)from hpt) ((gDrew w _).trans (uA w.drew ⟨gw,0,none⟩ _)));obtain⟨-,-,A,c,hB,hw⟩:=hs;obtain⟨rfl,cs,hw⟩:=hw (by omega);rw[if_neg (by omega)]at hB;have c1:=hB.at1;have c0:=hw.at0;have f0:=hw.frozen 0;have l0:=hw.lt;have k1:k/64=0:=by omega
  have k2:(k:Int)%64=k:=by omega
  have k3:(k:Int)/64=0:=by omega
  have ho:=bits_del x k hx2 hk;clear hb HP h hpt hB hw;go_enter Tryz.func186,Tryz.ntmps186;go_wp2_with (go_at_call 189;refine Hh.out.mono ?_;rintro e w' ⟨rfl,rfl⟩);go_region;go_wp2;exact Hs.out
theorem made_rep(v:Value)(n:Nat):madeCells #[v] n=Array.replicate n v:=by
 apply Array.ext
 ·simp[madeCells]
 ·intro i h1 h2;simp[madeCells,Nat.mod_one]
theorem infoU64:(Tryz.prog.info? 257).map (fun i=>(i.zero,i.size,i.bytes))=some (some (.int .u64 0),1,8):=by kernel_rfl
def SNewPost(w:World)(n:Nat)(e:Ending)(w':World):Prop:=e=.returned (.pointer (some ⟨w.heap.size+1,0,none⟩))∧SetW w' (w.heap.size+1) w.heap.size n 0∧Below w.heap.size w w'∧∀o v,w'.cell? ⟨w.heap.size,o,none⟩=some v→∃u,v=.int .u64 u
theorem snew_any{n:Nat}(hn:n≤12)(w:World):Calls Tryz.prog 167 #[.int .i64 n] w (SNewPost w n):=by
 have h1:max (n:Int) 0=n:=by omega
 have h2:min (n:Int) 1048576=n:=by omega
 obtain⟨k,hk⟩:∃k,k=(if n=0 then 0 else 1:Nat):=⟨_,rfl⟩;have h3:((n:Int)+63)/64=k:=by rw[hk];split<;>omega
 have hkl:k≤1:=by rw[hk];split<;>omega
 have hm:=fun W=>run_make_row' (P:=Tryz.prog) 294 257 (.int .u64 0) 8 Tryz.underlying294 infoU64 rfl .i64 .i64 k (by omega) (by omega) W
 rw[made_rep]at hm;have hB1:=Blk.new w 257 (Array.replicate k (Value.int .u64 0));have hB2:=Blk.newAt (w:=w.alloc (.cells (Array.replicate k (Value.int .u64 0)) 257)) (g:=w.heap.size+1) (by simp) 296 #[.int .i64 n,.slice (some ⟨w.heap.size,0,none⟩) k k];have hB3:=hB1.alloc (.cells #[.int .i64 n,.slice (some ⟨w.heap.size,0,none⟩) k k] 296);have Hs:=eh (show SNewPost w n (.returned (.pointer (some ⟨w.heap.size+1,0,none⟩))) ((w.alloc (.cells (Array.replicate k (Value.int .u64 0)) 257)).alloc (.cells #[.int .i64 n,.slice (some ⟨w.heap.size,0,none⟩) k k] 296))from
  ⟨rfl,⟨hn,Nat.pow_pos (by omega),some ⟨w.heap.size,0,none⟩,k,by rw[←hk];exact hB2,fun h=>⟨rfl,[],by rw[if_neg (by omega)]at hk;subst hk;exact hB3⟩⟩,((Below.refl _ _).alloc (Nat.le_refl _) _).alloc (by simp) _,fun o v hv=>by
   rw[hB3.cell,Array.getElem?_replicate]at hv;split at hv
   ·cases hv;exact⟨0,rfl⟩
   ·cases hv⟩)
 clear hk hB1 hB2 hB3;go_enter Tryz.func167,Tryz.ntmps167;go_wp2;go_ret;exact Hs.out
def outV(k t m p v:Int):Value:=.agg #[.int .i64 k,.int .i64 t,.int .i64 m,.int .i64 p,.int .i64 v,.slice none 0 0]
def YesP17(w:World)(e:Ending)(w':World):Prop:=e=.returned (.bool true)∧Below w.heap.size w w'
theorem sameLongs_nil(w:World):Calls Tryz.prog 15 #[.slice none 0 0,.slice none 0 0] w fun e w'=>e=.returned (.bool true)∧w'=w:=by
 go_enter Tryz.func15,Tryz.ntmps15;go_wp2;go_loop [5] (fun i=>i=.int .i64 0) (fun _=>0)
 case atStart=>rfl
 case round=>
  subst hrel;go_wp2;go_ret;exact⟨rfl,rfl⟩
theorem sameOut_yes(k t m p v:Int)(w:World):Calls Tryz.prog 8 #[outV k t m p v,outV k t m p v] w (YesP17 w):=by
 have HP:=eh (fun w' (h:Below w.heap.size w w')=>(show YesP17 w (.returned (.bool true)) w' from⟨rfl,h⟩));generalize YesP17 w=Post at*;unfold outV;have hb:=((Below.refl w.heap.size w).alloc (Nat.le_refl _) (.cells #[.int .i64 k,.int .i64 t,.int .i64 m,.int .i64 p,.int .i64 v,.slice none 0 0] 53)).alloc (by simp) (.cells #[.int .i64 k,.int .i64 t,.int .i64 m,.int .i64 p,.int .i64 v,.slice none 0 0] 53);go_enter Tryz.func8,Tryz.ntmps8;go_wp2_with (go_at_call 15;refine(sameLongs_nil _).mono ?_;rintro e w' ⟨rfl,rfl⟩);exact HP.out _ hb
end Go.Proofs.YtgbgbmdiomhfiaaGreatDoor