/-
 RegPar.
-/
import Derived.Deep.RegionHeld3
import Derived.Test.YtgbgbmdiomhfiaaGreatDoorJBt1
import Derived.Test.YtgbgbmdiomhfiaaGreatDoorJLightB
set_option linter.unusedSimpArgs false
set_option linter.unusedVariables false
namespace Go.Proofs.YtgbgbmdiomhfiaaGreatDoor
open Go.RowKit Go.Maps
def wpAnyJ(P:Program)(md:Region.Mode)(ops:Array Oper)(Q:Exit→Act→World→Prop)(S:World→Prop)(J:Nat→Bool):Nat→Array Bool→Act→World→Prop
 |0,listed,a,w=>Region.ready md ops listed=[]∧Q .normal a w
 |fuel+1,listed,a,w=>
  (Region.ready md ops listed=[]→Q .normal a w)∧
  ∀i∈Region.ready md ops listed,wpOp P ops Q i (fun a' w'=>(J i=true→S w')∧wpAnyJ P md ops Q S J fuel (listed.setIfInBounds i true) a' w') a w
theorem wpAny_of_J{P:Program}{ops:Array Oper}{Q:Exit→Act→World→Prop}{md:Region.Mode}{S:World→Prop}{J:Nat→Bool}:∀(fuel:Nat) (listed:Array Bool) (a:Act) (w:World),wpAnyJ P md ops Q S J fuel listed a w→wpAny P md ops Q fuel listed a w
 |0,_,_,_,h=>h
 |fuel+1,_,_,_,h=>⟨h.1,fun i hi=>wpOp_mono (fun a' w' h'=>wpAny_of_J fuel _ a' w' h'.2) (h.2 i hi)⟩
def waitsJ(md:Region.Mode)(ops:Array Oper)(J:Nat→Bool)(i:Nat):Bool:=(List.range ops.size).all fun j=>J j||((ops[j]?).map (·.after.any fun e=>Region.binds md e&&e.on==i)).getD true
theorem waitsJ_spec{md:Region.Mode}{ops:Array Oper}{J:Nat→Bool}{i j:Nat}{listed:Array Bool}(h:waitsJ md ops J i=true)(hi:listed.getD i true=false)(hj:j∈Region.ready md ops listed):J j=true:=by
 obtain⟨_,oj,hoj,hall⟩:=mem_ready.1 hj;have hjs:j<ops.size:=(Array.getElem?_eq_some_iff.1 hoj).1;have:=List.all_eq_true.1 h j (List.mem_range.2 hjs);cases hJ:J j with
 |true=>rfl
 |false=>
  rw[hJ,hoj]at this;simp only[Bool.false_or,Option.map_some,Option.getD_some,Array.any_eq_true']at this;obtain⟨e,he,hb⟩:=this;simp only[Bool.and_eq_true,beq_iff_eq]at hb;have h2:=hall e he hb.1;rw[hb.2]at h2;rcases Nat.lt_or_ge i listed.size with h'|h'
  ·simp[h']at hi h2;rw[hi]at h2;cases h2
  ·simp[Array.getElem?_eq_none h']at h2
theorem wpAnyJ_first{P:Program}{ops:Array Oper}{Q:Exit→Act→World→Prop}{md:Region.Mode}{S:World→Prop}{J:Nat→Bool}{i:Nat}{oi:Oper}{v:Value}(hi:ops[i]? =some oi)(hsel:∀(j:Nat) (o:Oper) cs b,ops[j]? =some o→o.op≠.select cs b)
 (hQ:∀c a w,Q (.panic c) (a.put oi.dst v) w→Q (.panic c) a w)(hJ:waitsJ md ops J i=true)(hJi:J i=true):
 ∀(fuel:Nat) (listed:Array Bool) (a:Act) (w:World),
  (∀j oj,ops[j]? =some oj→j≠i→listed.getD j true=false→(∀e∈oj.after,Region.binds md e=true→e.on≠i)→oi.apart ops oj=true)→
  i∈Region.ready md ops listed→YieldsIf P ops S oi v a→S w→
  wpAnyJ P md ops Q S J fuel (listed.setIfInBounds i true) (a.put oi.dst v) w→wpAnyJ P md ops Q S J (fuel+1) listed a w:=by
 intro fuel;induction fuel with
 |zero=>
  intro listed a w _ hr hy hS H;refine⟨fun h=>(by rw[h]at hr;cases hr),fun j hj=>?_⟩
  by_cases hji:j=i
  ·subst hji;exact hy.wpOp hi hS ⟨fun _=>hS,H⟩
  ·have:=ready_mono hj hji;rw[H.1]at this;cases this
 |succ fuel ih=>
  intro listed a w hfree hr hy hS H;refine⟨fun h=>(by rw[h]at hr;cases hr),fun j hj=>?_⟩
  by_cases hji:j=i
  ·subst hji;exact hy.wpOp hi hS ⟨fun _=>hS,H⟩
  ·have hjJ:=waitsJ_spec hJ (mem_ready.1 hr).1 hj;have h1:=H.2 j (ready_mono hj hji);obtain⟨hjun,oj,hoj,hall⟩:=mem_ready.1 hj;have hnot:∀e∈oj.after,Region.binds md e=true→e.on≠i:=fun e he hb heq=>by
    have h1:=hall e he hb;have h0:=(mem_ready.1 hr).1;rw[heq]at h1;rcases Nat.lt_or_ge i listed.size with h'|h'
    ·simp[h']at h0 h1;rw[h0]at h1;cases h1
    ·simp[Array.getElem?_eq_none h']at h1
   have h2:=wpOp_putIf hoj (hfree j oj hoj hji hjun hnot) (fun cs b=>hsel i oi cs b hi) (fun cs b=>hsel j oj cs b hoj) hQ hy h1;have hfree':∀k ok,ops[k]? =some ok→k≠i→(listed.setIfInBounds j true).getD k true=false→
    (∀e∈ok.after,Region.binds md e=true→e.on≠i)→oi.apart ops ok=true:=fun k ok hk hki hun hno=>by
    refine hfree k ok hk hki ?_ hno
    by_cases hjk:j=k
    ·subst hjk;exact hjun
    ·rw[getD_set_ne true hjk]at hun;exact hun
   refine wpOp_mono (fun a' w' h3=>⟨fun _=>h3.2.1 hjJ,ih (listed.setIfInBounds j true) a' w' hfree' (ready_mono hr (Ne.symm hji)) h3.1 (h3.2.1 hjJ) ?_⟩) h2;rw[Array.setIfInBounds_comm _ _ hji];exact h3.2.2
theorem uD{P:Program}{ops:Array Oper}{Q:Exit→Act→World→Prop}{md:Region.Mode}{S:World→Prop}{J:Nat→Bool}{listed:Array Bool}{a:Act}{w:World}(hr:Region.ready md ops listed=[])(h:Q .normal a w):
 ∀fuel,wpAnyJ P md ops Q S J fuel listed a w
 |0=>⟨hr,h⟩
 |_+1=>⟨fun _=>h,by rw[hr];simp⟩
theorem uE{P:Program}{ops:Array Oper}{Q:Exit→Act→World→Prop}{S:World→Prop}{id:Nat}{a:Act}{w:World}(J:Nat→Bool)(hm:P.follows .mixedOrders=true)(hS:S w.drew)
 (h:S w.drew→wpAnyJ P .any ops Q S J ops.size (Array.replicate ops.size false) a w.drew):(Code.region id ops true).wp P Q a w:=
 wp_region_any hm (wpAny_of_J _ _ _ _ (h hS))
theorem wpAnyJ_go{P:Program}{ops:Array Oper}{Q:Exit→Act→World→Prop}{md:Region.Mode}{S:World→Prop}{J:Nat→Bool}(I:Nat→Array Bool→Act→World→Prop)
 (step:∀(k:Nat) (listed:Array Bool) (a:Act) (w:World),I (k+1) listed a w→Region.ready md ops listed≠[]∧∀i∈Region.ready md ops listed,wpOp P ops Q i (fun a' w'=>S w'∧I k (listed.setIfInBounds i true) a' w') a w)
 (fuel:Nat)(fin:∀(listed:Array Bool) (a:Act) (w:World),I 0 listed a w→wpAnyJ P md ops Q S J fuel listed a w):
 ∀(k:Nat) (listed:Array Bool) (a:Act) (w:World),I k listed a w→wpAnyJ P md ops Q S J (fuel+k) listed a w
 |0,listed,a,w,h=>fin listed a w h
 |k+1,listed,a,w,h=>by
  obtain⟨h1,h2⟩:=step k listed a w h;exact⟨fun e=>absurd e h1,fun i hi=>wpOp_mono (fun a' w' h'=>⟨fun _=>h'.1,wpAnyJ_go I step fuel fin k _ a' w' h'.2⟩) (h2 i hi)⟩
theorem takeH{P:Program}{ops:Array Oper}{Q:Exit→Act→World→Prop}{md:Region.Mode}{S:World→Prop}{J:Nat→Bool}{fuel:Nat}{listed:Array Bool}{a:Act}{w:World}{v:Value}(i:Nat)(d:Tmp)
 (hd:(ops[i]?).map (·.dst)=some (some d))(hs:Region.noSelect ops=true)(hf:Region.free md ops listed i=true)(hr:(Region.ready md ops listed).contains i=true)(hJ:waitsJ md ops J i=true)(hJi:J i=true)
 (hQ:∀c a w,Q (.panic c) (a.put (some d) v) w→Q (.panic c) a w)(hS:S w)(hy:∀oi,ops[i]? =some oi→YieldsIf P ops S oi v a)
 (h:wpAnyJ P md ops Q S J fuel (listed.setIfInBounds i true) (a.put (some d) v) w):wpAnyJ P md ops Q S J (fuel+1) listed a w:=by
 cases ho:ops[i]? with
 |none=>rw[ho]at hd;cases hd
 |some oi=>
  rw[ho]at hd;have e:oi.dst=some d:=by simpa using hd
  rw[←e]at hQ h;exact wpAnyJ_first ho (Region.noSelect_spec hs) hQ hJ hJi fuel listed a w (Region.free_spec ho hf) (by simpa using hr) (hy oi ho) hS h
theorem pS:(∀(a:Act) (d:Tmp) (v:Value),a.put (some d) v={a with tmps:=a.tmps.setIfInBounds d v})∧(∀(a:Act) (v:Value),a.put none v=a)∧(∀(α:Type) (l:List α) (i:Nat) (v:α),l.toArray.setIfInBounds i v=(l.set i v).toArray)∧(∀(l:List Oper) (i:Nat) (h:i<l.toArray.size),l.toArray[i]=l[i]'(by simpa using h))∧(∀(a:Oper) (l:List Oper) (h:0<(a::l).length),(a::l)[0]=a)∧(∀(a:Oper) (l:List Oper) (n:Nat) (h:n+1<(a::l).length),(a::l)[n+1]=l[n]'(Nat.lt_of_succ_lt_succ h))∧(∀(α:Type) (a b:α) (l:List α),(a::l).set 0 b=b::l)∧(∀(α:Type) (a b:α) (l:List α) (n:Nat),(a::l).set (n+1) b=a::l.set n b):=
 ⟨fun _ _ _=>rfl,fun _ _=>rfl,fun _ _ _ _=>List.setIfInBounds_toArray ..,fun _ _ _=>rfl,fun _ _ _=>rfl,fun _ _ _ _=>rfl,fun _ _ _ _=>rfl,fun _ _ _ _ _=>rfl⟩
theorem uB{P:Program}{ops:Array Oper}{Q:Exit→Act→World→Prop}{md:Region.Mode}{S:World→Prop}{J:Nat→Bool}{fuel:Nat}{listed:Array Bool}{a:Act}{w:World}{oi:Oper}{v:Value}(i:Nat)(d:Tmp)
 (ho:ops[i]? =some oi)(hS:S w)(hy:YieldsIf P ops S oi v a)(h:wpAnyJ P md ops Q S J fuel (listed.setIfInBounds i true) (a.put (some d) v) w)
 (hd:(ops[i]?).map (·.dst)=some (some d):=by kernel_rfl)(hs:Region.noSelect ops=true:=by kernel_rfl)(hf:Region.free md ops listed i=true:=by kernel_rfl)(hr:(Region.ready md ops listed).contains i=true:=by kernel_rfl)(hJ:waitsJ md ops J i=true:=by kernel_rfl)(hJi:J i=true:=by kernel_rfl)
 (hQ:∀c a w,Q (.panic c) (a.put (some d) v) w→Q (.panic c) a w:=by exact fun _ _ _ h=>h):wpAnyJ P md ops Q S J (fuel+1) listed a w:=
 takeH i d hd hs hf hr hJ hJi hQ hS (fun oj h=>by rw[ho]at h;cases h;exact hy) h
theorem stepH{P:Program}{ops:Array Oper}{Q:Exit→Act→World→Prop}{md:Region.Mode}{S:World→Prop}{J:Nat→Bool}{fuel:Nat}{listed:Array Bool}{a:Act}{w:World}(i:Nat)
 (hr:Region.ready md ops listed=[i])(hi:(ops[i]?).isSome=true)
 (h:∀oi,ops[i]? =some oi→∀K:Act→World→Prop,(∀a w,(J i=true→S w)→wpAnyJ P md ops Q S J fuel (listed.setIfInBounds i true) a w→K a w)→if Region.wanted oi (yielded ops a.tmps)=true then Oper.wp P oi a w K Q else K (a.put oi.dst undef) w):
 wpAnyJ P md ops Q S J (fuel+1) listed a w:=by
 cases ho:ops[i]? with
 |none=>rw[ho]at hi;cases hi
 |some oi=>
  refine⟨fun h=>(by rw[hr]at h;cases h),fun j hj=>?_⟩;rw[hr]at hj;obtain rfl:j=i:=by simpa using hj
  exact wpOp_step ho fun K hK=>h oi ho K fun a w h1 h2=>hK a w ⟨h1,h2⟩
theorem uN{P:Program}{ops:Array Oper}{Q:Exit→Act→World→Prop}{md:Region.Mode}{S:World→Prop}{J:Nat→Bool}{fuel:Nat}{listed:Array Bool}{a:Act}{w:World}{oi:Oper}(i:Nat)(ho:ops[i]? =some oi)
 (h:∀K:Act→World→Prop,Hid (∀a w,(J i=true→S w)→wpAnyJ P md ops Q S J fuel (listed.setIfInBounds i true) a w→K a w)→if Region.wanted oi (yielded ops a.tmps)=true then Oper.wp P oi a w K Q else K (a.put oi.dst undef) w)
 (hr:Region.ready md ops listed=[i]:=by kernel_rfl):wpAnyJ P md ops Q S J (fuel+1) listed a w:=
 stepH i hr (by rw[ho];rfl) (fun oj e K hK=>by rw[ho]at e;cases e;exact h K (eh hK))
theorem twoH{P:Program}{ops:Array Oper}{Q:Exit→Act→World→Prop}{md:Region.Mode}{S:World→Prop}{J:Nat→Bool}{fuel:Nat}{listed:Array Bool}{a:Act}{w:World}(i j:Nat)
 (hr:Region.ready md ops listed=[i,j])(hi:(ops[i]?).isSome=true)(hj:(ops[j]?).isSome=true)
 (h1:∀oi,ops[i]? =some oi→∀K:Act→World→Prop,(∀a w,(J i=true→S w)→wpAnyJ P md ops Q S J fuel (listed.setIfInBounds i true) a w→K a w)→if Region.wanted oi (yielded ops a.tmps)=true then Oper.wp P oi a w K Q else K (a.put oi.dst undef) w)
 (h2:∀oi,ops[j]? =some oi→∀K:Act→World→Prop,(∀a w,(J j=true→S w)→wpAnyJ P md ops Q S J fuel (listed.setIfInBounds j true) a w→K a w)→if Region.wanted oi (yielded ops a.tmps)=true then Oper.wp P oi a w K Q else K (a.put oi.dst undef) w):
 wpAnyJ P md ops Q S J (fuel+1) listed a w:=by
 refine⟨fun h=>(by rw[hr]at h;cases h),fun q hq=>?_⟩;rw[hr]at hq;cases hoi:ops[i]? with
 |none=>rw[hoi]at hi;cases hi
 |some oi=>
  cases hoj:ops[j]? with
  |none=>rw[hoj]at hj;cases hj
  |some oj=>
   have hq':q=i∨q=j:=by simpa using hq
   rcases hq' with rfl|rfl
   ·exact wpOp_step hoi fun K hK=>h1 oi hoi K fun a w h1 h2=>hK a w ⟨h1,h2⟩
   ·exact wpOp_step hoj fun K hK=>h2 oj hoj K fun a w h1 h2=>hK a w ⟨h1,h2⟩
theorem oper_append_row{P:Program}{w:World}{o:Oper}{a:Act}{Q:Exit→Act→World→Prop}{K:Act→World→Prop}(s x:Operand)(t:TypeId)
 (ho:o.op=.call {callee:=.builtin .append,args:=#[s,x],argTypes:=#[t,t]})
 (base:Nat)(e:TypeId)(z:Value)(size bytes:Nat)(ht:P.underlying t=some (.slice e))(hinfo:(P.info? e).map (fun i=>(i.zero,i.size,i.bytes))=some (some z,size,bytes))(hzs:z.cells.size=size)(hsz:0<size)
 (A:Option Addr)(c n:Nat)(xs:List Value)(hs:a.eval s=.slice A n c)(hown:w.ownsRow base e size (.slice A n c) n xs)
 (g m c2:Nat)(tt:TypeId)(news:List Value)(hx:a.eval x=.slice (some ⟨g,0,none⟩) m c2)(hg:Blk w g tt ⟨news⟩)(hl:news.length=m*size)(h1:∀u∈news,u.oneCell'=true)
 (h63:n+m≤maxLen)(hbytes:(n+m)*bytes≤140737488355328)(hbase:base≤w.heap.size)
 (h:∀A' c' w',w'.ownsRow base e size (.slice A' (n+m) c') (n+m) (xs++news)→w.grownBy w' (Value.slice A n c).ownBlock→((Value.slice A' (n+m) c').ownBlock=(Value.slice A n c).ownBlock∨(Value.slice A' (n+m) c').ownBlock=some w.heap.size)→K (a.put o.dst (.slice A' (n+m) c')) w'):
 Oper.wp P o a w K Q:=by
 obtain⟨i,hi,hz,hsize,hby⟩:=info_parts hinfo;obtain⟨v',w',hr,h2,h3,h4,h5⟩:=run_append_own_at (P:=P) w base t o.type e i z size bytes ht hi hz hsize hby hzs hsz (.slice A n c) n xs hown ⟨g,0,none⟩ m c2 news hl (fun j u hj=>by
  have e1:(⟨g,0,none⟩:Addr).add j=⟨g,j,none⟩:=by
   unfold Addr.add
   by_cases hj:j=0<;>simp[hj]
  rw[e1,hg.cell];simpa using hj) h1 h63 hbytes hbase
 obtain⟨A',c',rfl⟩:=own_slice h2;unfold Oper.wp execOp;simp only[ho,resolve,invoke,builtin,Sem.run_bind,Sem.run_pure,Result.andThen_ok,List.map_toArray,List.map_cons,List.map_nil,hs,hx,hr];exact h A' c' w' h2 h3 h5
theorem uT(L:Array Bool){i j:Nat}(h:i≠j)(x y:Bool):(L.setIfInBounds j y).setIfInBounds i x=(L.setIfInBounds i x).setIfInBounds j y:=Array.setIfInBounds_comm _ _ (Ne.symm h)
theorem uU(a:Act){i j:Tmp}(h:i≠j)(x y:Value):(a.put (some j) y).put (some i) x=(a.put (some i) x).put (some j) y:=by
 simp only[Act.put];rw[Array.setIfInBounds_comm _ _ (Ne.symm h)]
theorem put_twice(a:Act)(i:Tmp)(x y:Value):(a.put (some i) x).put (some i) y=a.put (some i) y:=by simp[Act.put]
def A2(d1 d2:Tmp)(A0:Act)(v1 v2:Value):Act:=(A0.put (some d1) v1).put (some d2) v2
def A3(d1 d2 d3:Tmp)(A0:Act)(v1 v2 v3:Value):Act:=((A0.put (some d1) v1).put (some d2) v2).put (some d3) v3
def L3(i1 i2 i3:Nat)(L0:Array Bool)(b1 b2 b3:Bool):Array Bool:=((L0.setIfInBounds i1 b1).setIfInBounds i2 b2).setIfInBounds i3 b3
theorem wpAnyJ_par3{P:Program}{ops:Array Oper}{Q:Exit→Act→World→Prop}{md:Region.Mode}{J:Nat→Bool}{w0:World}{L0:Array Bool}{A0:Act}{w:World}{fuel:Nat}
 (i1 i2 i3:Nat)(d1 d2 d3:Tmp)(u1 u2 u3:Value){o1 o2 o3:Oper}
 (P1 P2 P3:Nat→Nat→Value→World→Prop)
 (ho1:ops[i1]? =some o1)(hd1:o1.dst=some d1)(ho2:ops[i2]? =some o2)(hd2:o2.dst=some d2)(ho3:ops[i3]? =some o3)(hd3:o3.dst=some d3)
 (hA:A3 d1 d2 d3 A0 u1 u2 u3=A0)(hL:L3 i1 i2 i3 L0 false false false=L0)
 (ni12:i1≠i2)(nd12:d1≠d2)(ni13:i1≠i3)(nd13:d1≠d3)(ni23:i2≠i3)(nd23:d2≠d3)
 (hr:∀b1 b2 b3,(b1&&b2&&b3)=false→Region.ready md ops (L3 i1 i2 i3 L0 b1 b2 b3)=(bif b1 then[]else[i1])++(bif b2 then[]else[i2])++(bif b3 then[]else[i3]))
 (ht1:∀lo hi x w w',P1 lo hi x w→Below w.heap.size w w'→P1 lo hi x w')(ht2:∀lo hi x w w',P2 lo hi x w→Below w.heap.size w w'→P2 lo hi x w')(ht3:∀lo hi x w w',P3 lo hi x w→Below w.heap.size w w'→P3 lo hi x w')
 (hs1:∀(v2 v3:Value) (w1:World),Below w0.heap.size w0 w1→∀K:Act→World→Prop,(∀x w2,Below w1.heap.size w1 w2→P1 w1.heap.size w2.heap.size x w2→K ((A3 d1 d2 d3 A0 u1 v2 v3).put (some d1) x) w2)→if Region.wanted o1 (yielded ops (A3 d1 d2 d3 A0 u1 v2 v3).tmps)=true then Oper.wp P o1 (A3 d1 d2 d3 A0 u1 v2 v3) w1 K Q else K ((A3 d1 d2 d3 A0 u1 v2 v3).put o1.dst undef) w1)
 (hs2:∀(v1 v3:Value) (w1:World),Below w0.heap.size w0 w1→∀K:Act→World→Prop,(∀x w2,Below w1.heap.size w1 w2→P2 w1.heap.size w2.heap.size x w2→K ((A3 d1 d2 d3 A0 v1 u2 v3).put (some d2) x) w2)→if Region.wanted o2 (yielded ops (A3 d1 d2 d3 A0 v1 u2 v3).tmps)=true then Oper.wp P o2 (A3 d1 d2 d3 A0 v1 u2 v3) w1 K Q else K ((A3 d1 d2 d3 A0 v1 u2 v3).put o2.dst undef) w1)
 (hs3:∀(v1 v2:Value) (w1:World),Below w0.heap.size w0 w1→∀K:Act→World→Prop,(∀x w2,Below w1.heap.size w1 w2→P3 w1.heap.size w2.heap.size x w2→K ((A3 d1 d2 d3 A0 v1 v2 u3).put (some d3) x) w2)→if Region.wanted o3 (yielded ops (A3 d1 d2 d3 A0 v1 v2 u3).tmps)=true then Oper.wp P o3 (A3 d1 d2 d3 A0 v1 v2 u3) w1 K Q else K ((A3 d1 d2 d3 A0 v1 v2 u3).put o3.dst undef) w1)
 (rest:∀(v1 v2 v3:Value) (l1 h1 l2 h2 l3 h3:Nat) (w1:World),Below w0.heap.size w0 w1→P1 l1 h1 v1 w1→w0.heap.size≤l1→l1≤h1→h1≤w1.heap.size→P2 l2 h2 v2 w1→w0.heap.size≤l2→l2≤h2→h2≤w1.heap.size→P3 l3 h3 v3 w1→w0.heap.size≤l3→l3≤h3→h3≤w1.heap.size→(h1≤l2∨h2≤l1)→(h1≤l3∨h3≤l1)→(h2≤l3∨h3≤l2)→wpAnyJ P md ops Q (Below w0.heap.size w0) J fuel (L3 i1 i2 i3 L0 true true true) (A3 d1 d2 d3 A0 v1 v2 v3) w1)
 (hw:Below w0.heap.size w0 w):wpAnyJ P md ops Q (Below w0.heap.size w0) J (fuel+3) L0 A0 w:=by
 have hLs1:∀b1 b2 b3,(L3 i1 i2 i3 L0 b1 b2 b3).setIfInBounds i1 true=L3 i1 i2 i3 L0 true b2 b3:=by
  intro b1 b2 b3;unfold L3;rw[uT _ ni13 _ _,uT _ ni12 _ _,Array.setIfInBounds_setIfInBounds]
 have hAs1:∀v1 v2 v3 x,(A3 d1 d2 d3 A0 v1 v2 v3).put (some d1) x=A3 d1 d2 d3 A0 x v2 v3:=by
  intro v1 v2 v3 x;unfold A3;rw[uU _ nd13 _ _,uU _ nd12 _ _,put_twice]
 have hLs2:∀b1 b2 b3,(L3 i1 i2 i3 L0 b1 b2 b3).setIfInBounds i2 true=L3 i1 i2 i3 L0 b1 true b3:=by
  intro b1 b2 b3;unfold L3;rw[uT _ ni23 _ _,Array.setIfInBounds_setIfInBounds]
 have hAs2:∀v1 v2 v3 x,(A3 d1 d2 d3 A0 v1 v2 v3).put (some d2) x=A3 d1 d2 d3 A0 v1 x v3:=by
  intro v1 v2 v3 x;unfold A3;rw[uU _ nd23 _ _,put_twice]
 have hLs3:∀b1 b2 b3,(L3 i1 i2 i3 L0 b1 b2 b3).setIfInBounds i3 true=L3 i1 i2 i3 L0 b1 b2 true:=by
  intro b1 b2 b3;unfold L3;rw[Array.setIfInBounds_setIfInBounds]
 have hAs3:∀v1 v2 v3 x,(A3 d1 d2 d3 A0 v1 v2 v3).put (some d3) x=A3 d1 d2 d3 A0 v1 v2 x:=by
  intro v1 v2 v3 x;unfold A3;rw[put_twice]
 refine wpAnyJ_go (fun(k:Nat) (listed:Array Bool) (a:Act) (w1:World)=>∃(b1 b2 b3:Bool) (v1 v2 v3:Value) (l1 h1 l2 h2 l3 h3:Nat),(bif b1 then 0 else 1)+(bif b2 then 0 else 1)+(bif b3 then 0 else 1)=k∧listed=L3 i1 i2 i3 L0 b1 b2 b3∧a=A3 d1 d2 d3 A0 v1 v2 v3∧Below w0.heap.size w0 w1∧(b1=false→v1=u1)∧(b1=true→P1 l1 h1 v1 w1∧w0.heap.size≤l1∧l1≤h1∧h1≤w1.heap.size)∧(b2=false→v2=u2)∧(b2=true→P2 l2 h2 v2 w1∧w0.heap.size≤l2∧l2≤h2∧h2≤w1.heap.size)∧(b3=false→v3=u3)∧(b3=true→P3 l3 h3 v3 w1∧w0.heap.size≤l3∧l3≤h3∧h3≤w1.heap.size)∧(b1=true→b2=true→h1≤l2∨h2≤l1)∧(b1=true→b3=true→h1≤l3∨h3≤l1)∧(b2=true→b3=true→h2≤l3∨h3≤l2)) ?step fuel ?fin 3 L0 A0 w ?init
 case step=>
  rintro k listed a w1 ⟨b1,b2,b3,v1,v2,v3,l1,h1,l2,h2,l3,h3,hk,rfl,rfl,hb,f1,t1,f2,t2,f3,t3,p12,p13,p23⟩;have hall:(b1&&b2&&b3)=false:=by
   cases h:(b1&&b2&&b3)with
   |false=>rfl
   |true=>
    simp only[Bool.and_eq_true]at h;simp[h]at hk
  rw[hr b1 b2 b3 hall];refine⟨?_,fun i hi=>?_⟩
  ·intro h;simp only[List.append_eq_nil_iff]at h;have e1:b1=true:=by
    cases b1 with
    |true=>rfl
    |false=>simp at h
   have e2:b2=true:=by
    cases b2 with
    |true=>rfl
    |false=>simp at h
   have e3:b3=true:=by
    cases b3 with
    |true=>rfl
    |false=>simp at h
   simp[e1,e2,e3]at hall
  ·simp only[List.mem_append]at hi;rcases hi with(hi|hi)|hi
   ·have hb1:b1=false:=by
     cases b1 with
     |false=>rfl
     |true=>simp at hi
    subst hb1;obtain rfl:i=i1:=by simpa using hi
    obtain rfl:=f1 rfl;refine wpOp_step ho1 (fun K hK=>hs1 v2 v3 w1 hb K (fun x w2 hb2 hp=>hK _ _ ?_));have hz:=hb2.size;have hz0:=hb.size;exact⟨hb.trans (hb2.mono hz0),true,b2,b3,x,v2,v3,w1.heap.size,w2.heap.size,l2,h2,l3,h3,by simp only[cond_true,cond_false]at hk⊢;omega,hLs1 false b2 b3,hAs1 _ _ _ x,hb.trans (hb2.mono hz0),(by intro h;cases h),fun _=>⟨hp,hz0,hz,Nat.le_refl _⟩,f2,fun h=>⟨ht2 _ _ _ _ _ (t2 h).1 hb2,(t2 h).2.1,(t2 h).2.2.1,Nat.le_trans (t2 h).2.2.2 hz⟩,f3,fun h=>⟨ht3 _ _ _ _ _ (t3 h).1 hb2,(t3 h).2.1,(t3 h).2.2.1,Nat.le_trans (t3 h).2.2.2 hz⟩,fun _ h=>.inr (t2 h).2.2.2,fun _ h=>.inr (t3 h).2.2.2,p23⟩
   ·have hb2:b2=false:=by
     cases b2 with
     |false=>rfl
     |true=>simp at hi
    subst hb2;obtain rfl:i=i2:=by simpa using hi
    obtain rfl:=f2 rfl;refine wpOp_step ho2 (fun K hK=>hs2 v1 v3 w1 hb K (fun x w2 hb2 hp=>hK _ _ ?_));have hz:=hb2.size;have hz0:=hb.size;exact⟨hb.trans (hb2.mono hz0),b1,true,b3,v1,x,v3,l1,h1,w1.heap.size,w2.heap.size,l3,h3,by simp only[cond_true,cond_false]at hk⊢;omega,hLs2 b1 false b3,hAs2 _ _ _ x,hb.trans (hb2.mono hz0),f1,fun h=>⟨ht1 _ _ _ _ _ (t1 h).1 hb2,(t1 h).2.1,(t1 h).2.2.1,Nat.le_trans (t1 h).2.2.2 hz⟩,(by intro h;cases h),fun _=>⟨hp,hz0,hz,Nat.le_refl _⟩,f3,fun h=>⟨ht3 _ _ _ _ _ (t3 h).1 hb2,(t3 h).2.1,(t3 h).2.2.1,Nat.le_trans (t3 h).2.2.2 hz⟩,fun h _=>.inl (t1 h).2.2.2,p13,fun _ h=>.inr (t3 h).2.2.2⟩
   ·have hb3:b3=false:=by
     cases b3 with
     |false=>rfl
     |true=>simp at hi
    subst hb3;obtain rfl:i=i3:=by simpa using hi
    obtain rfl:=f3 rfl;refine wpOp_step ho3 (fun K hK=>hs3 v1 v2 w1 hb K (fun x w2 hb2 hp=>hK _ _ ?_));have hz:=hb2.size;have hz0:=hb.size;exact⟨hb.trans (hb2.mono hz0),b1,b2,true,v1,v2,x,l1,h1,l2,h2,w1.heap.size,w2.heap.size,by simp only[cond_true,cond_false]at hk⊢;omega,hLs3 b1 b2 false,hAs3 _ _ _ x,hb.trans (hb2.mono hz0),f1,fun h=>⟨ht1 _ _ _ _ _ (t1 h).1 hb2,(t1 h).2.1,(t1 h).2.2.1,Nat.le_trans (t1 h).2.2.2 hz⟩,f2,fun h=>⟨ht2 _ _ _ _ _ (t2 h).1 hb2,(t2 h).2.1,(t2 h).2.2.1,Nat.le_trans (t2 h).2.2.2 hz⟩,(by intro h;cases h),fun _=>⟨hp,hz0,hz,Nat.le_refl _⟩,p12,fun h _=>.inl (t1 h).2.2.2,fun h _=>.inl (t2 h).2.2.2⟩
 case fin=>
  rintro listed a w1 ⟨b1,b2,b3,v1,v2,v3,l1,h1,l2,h2,l3,h3,hk,rfl,rfl,hb,f1,t1,f2,t2,f3,t3,p12,p13,p23⟩;have e1:b1=true:=by cases b1<;>simp only[cond_true,cond_false]at hk<;>first|rfl|omega
  have e2:b2=true:=by cases b2<;>simp only[cond_true,cond_false]at hk<;>first|rfl|omega
  have e3:b3=true:=by cases b3<;>simp only[cond_true,cond_false]at hk<;>first|rfl|omega
  subst e1 e2 e3;exact rest v1 v2 v3 l1 h1 l2 h2 l3 h3 w1 hb (t1 rfl).1 (t1 rfl).2.1 (t1 rfl).2.2.1 (t1 rfl).2.2.2 (t2 rfl).1 (t2 rfl).2.1 (t2 rfl).2.2.1 (t2 rfl).2.2.2 (t3 rfl).1 (t3 rfl).2.1 (t3 rfl).2.2.1 (t3 rfl).2.2.2 (p12 rfl rfl) (p13 rfl rfl) (p23 rfl rfl)
 case init=>
  exact⟨false,false,false,u1,u2,u3,0,0,0,0,0,0,rfl,hL.symm,hA.symm,hw,fun _=>rfl,(by intro h;cases h),fun _=>rfl,(by intro h;cases h),fun _=>rfl,(by intro h;cases h),(by intro h;cases h),(by intro h;cases h),(by intro h;cases h)⟩
def A4(d1 d2 d3 d4:Tmp)(A0:Act)(v1 v2 v3 v4:Value):Act:=(((A0.put (some d1) v1).put (some d2) v2).put (some d3) v3).put (some d4) v4
def L4(i1 i2 i3 i4:Nat)(L0:Array Bool)(b1 b2 b3 b4:Bool):Array Bool:=(((L0.setIfInBounds i1 b1).setIfInBounds i2 b2).setIfInBounds i3 b3).setIfInBounds i4 b4
theorem wpAnyJ_par4{P:Program}{ops:Array Oper}{Q:Exit→Act→World→Prop}{md:Region.Mode}{J:Nat→Bool}{w0:World}{L0:Array Bool}{A0:Act}{w:World}{fuel:Nat}
 (i1 i2 i3 i4:Nat)(d1 d2 d3 d4:Tmp)(u1 u2 u3 u4:Value){o1 o2 o3 o4:Oper}
 (P1 P2 P3 P4:Nat→Nat→Value→World→Prop)
 (ho1:ops[i1]? =some o1)(hd1:o1.dst=some d1)(ho2:ops[i2]? =some o2)(hd2:o2.dst=some d2)(ho3:ops[i3]? =some o3)(hd3:o3.dst=some d3)(ho4:ops[i4]? =some o4)(hd4:o4.dst=some d4)
 (hA:A4 d1 d2 d3 d4 A0 u1 u2 u3 u4=A0)(hL:L4 i1 i2 i3 i4 L0 false false false false=L0)
 (ni12:i1≠i2)(nd12:d1≠d2)(ni13:i1≠i3)(nd13:d1≠d3)(ni14:i1≠i4)(nd14:d1≠d4)(ni23:i2≠i3)(nd23:d2≠d3)(ni24:i2≠i4)(nd24:d2≠d4)(ni34:i3≠i4)(nd34:d3≠d4)
 (hr:∀b1 b2 b3 b4,(b1&&b2&&b3&&b4)=false→Region.ready md ops (L4 i1 i2 i3 i4 L0 b1 b2 b3 b4)=(bif b1 then[]else[i1])++(bif b2 then[]else[i2])++(bif b3 then[]else[i3])++(bif b4 then[]else[i4]))
 (ht1:∀lo hi x w w',P1 lo hi x w→Below w.heap.size w w'→P1 lo hi x w')(ht2:∀lo hi x w w',P2 lo hi x w→Below w.heap.size w w'→P2 lo hi x w')(ht3:∀lo hi x w w',P3 lo hi x w→Below w.heap.size w w'→P3 lo hi x w')(ht4:∀lo hi x w w',P4 lo hi x w→Below w.heap.size w w'→P4 lo hi x w')
 (hs1:∀(v2 v3 v4:Value) (w1:World),Below w0.heap.size w0 w1→∀K:Act→World→Prop,(∀x w2,Below w1.heap.size w1 w2→P1 w1.heap.size w2.heap.size x w2→K ((A4 d1 d2 d3 d4 A0 u1 v2 v3 v4).put (some d1) x) w2)→if Region.wanted o1 (yielded ops (A4 d1 d2 d3 d4 A0 u1 v2 v3 v4).tmps)=true then Oper.wp P o1 (A4 d1 d2 d3 d4 A0 u1 v2 v3 v4) w1 K Q else K ((A4 d1 d2 d3 d4 A0 u1 v2 v3 v4).put o1.dst undef) w1)
 (hs2:∀(v1 v3 v4:Value) (w1:World),Below w0.heap.size w0 w1→∀K:Act→World→Prop,(∀x w2,Below w1.heap.size w1 w2→P2 w1.heap.size w2.heap.size x w2→K ((A4 d1 d2 d3 d4 A0 v1 u2 v3 v4).put (some d2) x) w2)→if Region.wanted o2 (yielded ops (A4 d1 d2 d3 d4 A0 v1 u2 v3 v4).tmps)=true then Oper.wp P o2 (A4 d1 d2 d3 d4 A0 v1 u2 v3 v4) w1 K Q else K ((A4 d1 d2 d3 d4 A0 v1 u2 v3 v4).put o2.dst undef) w1)
 (hs3:∀(v1 v2 v4:Value) (w1:World),Below w0.heap.size w0 w1→∀K:Act→World→Prop,(∀x w2,Below w1.heap.size w1 w2→P3 w1.heap.size w2.heap.size x w2→K ((A4 d1 d2 d3 d4 A0 v1 v2 u3 v4).put (some d3) x) w2)→if Region.wanted o3 (yielded ops (A4 d1 d2 d3 d4 A0 v1 v2 u3 v4).tmps)=true then Oper.wp P o3 (A4 d1 d2 d3 d4 A0 v1 v2 u3 v4) w1 K Q else K ((A4 d1 d2 d3 d4 A0 v1 v2 u3 v4).put o3.dst undef) w1)
 (hs4:∀(v1 v2 v3:Value) (w1:World),Below w0.heap.size w0 w1→∀K:Act→World→Prop,(∀x w2,Below w1.heap.size w1 w2→P4 w1.heap.size w2.heap.size x w2→K ((A4 d1 d2 d3 d4 A0 v1 v2 v3 u4).put (some d4) x) w2)→if Region.wanted o4 (yielded ops (A4 d1 d2 d3 d4 A0 v1 v2 v3 u4).tmps)=true then Oper.wp P o4 (A4 d1 d2 d3 d4 A0 v1 v2 v3 u4) w1 K Q else K ((A4 d1 d2 d3 d4 A0 v1 v2 v3 u4).put o4.dst undef) w1)
 (rest:∀(v1 v2 v3 v4:Value) (l1 h1 l2 h2 l3 h3 l4 h4:Nat) (w1:World),Below w0.heap.size w0 w1→P1 l1 h1 v1 w1→w0.heap.size≤l1→l1≤h1→h1≤w1.heap.size→P2 l2 h2 v2 w1→w0.heap.size≤l2→l2≤h2→h2≤w1.heap.size→P3 l3 h3 v3 w1→w0.heap.size≤l3→l3≤h3→h3≤w1.heap.size→P4 l4 h4 v4 w1→w0.heap.size≤l4→l4≤h4→h4≤w1.heap.size→(h1≤l2∨h2≤l1)→(h1≤l3∨h3≤l1)→(h1≤l4∨h4≤l1)→(h2≤l3∨h3≤l2)→(h2≤l4∨h4≤l2)→(h3≤l4∨h4≤l3)→wpAnyJ P md ops Q (Below w0.heap.size w0) J fuel (L4 i1 i2 i3 i4 L0 true true true true) (A4 d1 d2 d3 d4 A0 v1 v2 v3 v4) w1)
 (hw:Below w0.heap.size w0 w):wpAnyJ P md ops Q (Below w0.heap.size w0) J (fuel+4) L0 A0 w:=by
 have hLs1:∀b1 b2 b3 b4,(L4 i1 i2 i3 i4 L0 b1 b2 b3 b4).setIfInBounds i1 true=L4 i1 i2 i3 i4 L0 true b2 b3 b4:=by
  intro b1 b2 b3 b4;unfold L4;rw[uT _ ni14 _ _,uT _ ni13 _ _,uT _ ni12 _ _,Array.setIfInBounds_setIfInBounds]
 have hAs1:∀v1 v2 v3 v4 x,(A4 d1 d2 d3 d4 A0 v1 v2 v3 v4).put (some d1) x=A4 d1 d2 d3 d4 A0 x v2 v3 v4:=by
  intro v1 v2 v3 v4 x;unfold A4;rw[uU _ nd14 _ _,uU _ nd13 _ _,uU _ nd12 _ _,put_twice]
 have hLs2:∀b1 b2 b3 b4,(L4 i1 i2 i3 i4 L0 b1 b2 b3 b4).setIfInBounds i2 true=L4 i1 i2 i3 i4 L0 b1 true b3 b4:=by
  intro b1 b2 b3 b4;unfold L4;rw[uT _ ni24 _ _,uT _ ni23 _ _,Array.setIfInBounds_setIfInBounds]
 have hAs2:∀v1 v2 v3 v4 x,(A4 d1 d2 d3 d4 A0 v1 v2 v3 v4).put (some d2) x=A4 d1 d2 d3 d4 A0 v1 x v3 v4:=by
  intro v1 v2 v3 v4 x;unfold A4;rw[uU _ nd24 _ _,uU _ nd23 _ _,put_twice]
 have hLs3:∀b1 b2 b3 b4,(L4 i1 i2 i3 i4 L0 b1 b2 b3 b4).setIfInBounds i3 true=L4 i1 i2 i3 i4 L0 b1 b2 true b4:=by
  intro b1 b2 b3 b4;unfold L4;rw[uT _ ni34 _ _,Array.setIfInBounds_setIfInBounds]
 have hAs3:∀v1 v2 v3 v4 x,(A4 d1 d2 d3 d4 A0 v1 v2 v3 v4).put (some d3) x=A4 d1 d2 d3 d4 A0 v1 v2 x v4:=by
  intro v1 v2 v3 v4 x;unfold A4;rw[uU _ nd34 _ _,put_twice]
 have hLs4:∀b1 b2 b3 b4,(L4 i1 i2 i3 i4 L0 b1 b2 b3 b4).setIfInBounds i4 true=L4 i1 i2 i3 i4 L0 b1 b2 b3 true:=by
  intro b1 b2 b3 b4;unfold L4;rw[Array.setIfInBounds_setIfInBounds]
 have hAs4:∀v1 v2 v3 v4 x,(A4 d1 d2 d3 d4 A0 v1 v2 v3 v4).put (some d4) x=A4 d1 d2 d3 d4 A0 v1 v2 v3 x:=by
  intro v1 v2 v3 v4 x;unfold A4;rw[put_twice]
 refine wpAnyJ_go (fun(k:Nat) (listed:Array Bool) (a:Act) (w1:World)=>∃(b1 b2 b3 b4:Bool) (v1 v2 v3 v4:Value) (l1 h1 l2 h2 l3 h3 l4 h4:Nat),(bif b1 then 0 else 1)+(bif b2 then 0 else 1)+(bif b3 then 0 else 1)+(bif b4 then 0 else 1)=k∧listed=L4 i1 i2 i3 i4 L0 b1 b2 b3 b4∧a=A4 d1 d2 d3 d4 A0 v1 v2 v3 v4∧Below w0.heap.size w0 w1∧(b1=false→v1=u1)∧(b1=true→P1 l1 h1 v1 w1∧w0.heap.size≤l1∧l1≤h1∧h1≤w1.heap.size)∧(b2=false→v2=u2)∧(b2=true→P2 l2 h2 v2 w1∧w0.heap.size≤l2∧l2≤h2∧h2≤w1.heap.size)∧(b3=false→v3=u3)∧(b3=true→P3 l3 h3 v3 w1∧w0.heap.size≤l3∧l3≤h3∧h3≤w1.heap.size)∧(b4=false→v4=u4)∧(b4=true→P4 l4 h4 v4 w1∧w0.heap.size≤l4∧l4≤h4∧h4≤w1.heap.size)∧(b1=true→b2=true→h1≤l2∨h2≤l1)∧(b1=true→b3=true→h1≤l3∨h3≤l1)∧(b1=true→b4=true→h1≤l4∨h4≤l1)∧(b2=true→b3=true→h2≤l3∨h3≤l2)∧(b2=true→b4=true→h2≤l4∨h4≤l2)∧(b3=true→b4=true→h3≤l4∨h4≤l3)) ?step fuel ?fin 4 L0 A0 w ?init
 case step=>
  rintro k listed a w1 ⟨b1,b2,b3,b4,v1,v2,v3,v4,l1,h1,l2,h2,l3,h3,l4,h4,hk,rfl,rfl,hb,f1,t1,f2,t2,f3,t3,f4,t4,p12,p13,p14,p23,p24,p34⟩;have hall:(b1&&b2&&b3&&b4)=false:=by
   cases h:(b1&&b2&&b3&&b4)with
   |false=>rfl
   |true=>
    simp only[Bool.and_eq_true]at h;simp[h]at hk
  rw[hr b1 b2 b3 b4 hall];refine⟨?_,fun i hi=>?_⟩
  ·intro h;simp only[List.append_eq_nil_iff]at h;have e1:b1=true:=by
    cases b1 with
    |true=>rfl
    |false=>simp at h
   have e2:b2=true:=by
    cases b2 with
    |true=>rfl
    |false=>simp at h
   have e3:b3=true:=by
    cases b3 with
    |true=>rfl
    |false=>simp at h
   have e4:b4=true:=by
    cases b4 with
    |true=>rfl
    |false=>simp at h
   simp[e1,e2,e3,e4]at hall
  ·simp only[List.mem_append]at hi;rcases hi with((hi|hi)|hi)|hi
   ·have hb1:b1=false:=by
     cases b1 with
     |false=>rfl
     |true=>simp at hi
    subst hb1;obtain rfl:i=i1:=by simpa using hi
    obtain rfl:=f1 rfl;refine wpOp_step ho1 (fun K hK=>hs1 v2 v3 v4 w1 hb K (fun x w2 hb2 hp=>hK _ _ ?_));have hz:=hb2.size;have hz0:=hb.size;exact⟨hb.trans (hb2.mono hz0),true,b2,b3,b4,x,v2,v3,v4,w1.heap.size,w2.heap.size,l2,h2,l3,h3,l4,h4,by simp only[cond_true,cond_false]at hk⊢;omega,hLs1 false b2 b3 b4,hAs1 _ _ _ _ x,hb.trans (hb2.mono hz0),(by intro h;cases h),fun _=>⟨hp,hz0,hz,Nat.le_refl _⟩,f2,fun h=>⟨ht2 _ _ _ _ _ (t2 h).1 hb2,(t2 h).2.1,(t2 h).2.2.1,Nat.le_trans (t2 h).2.2.2 hz⟩,f3,fun h=>⟨ht3 _ _ _ _ _ (t3 h).1 hb2,(t3 h).2.1,(t3 h).2.2.1,Nat.le_trans (t3 h).2.2.2 hz⟩,f4,fun h=>⟨ht4 _ _ _ _ _ (t4 h).1 hb2,(t4 h).2.1,(t4 h).2.2.1,Nat.le_trans (t4 h).2.2.2 hz⟩,fun _ h=>.inr (t2 h).2.2.2,fun _ h=>.inr (t3 h).2.2.2,fun _ h=>.inr (t4 h).2.2.2,p23,p24,p34⟩
   ·have hb2:b2=false:=by
     cases b2 with
     |false=>rfl
     |true=>simp at hi
    subst hb2;obtain rfl:i=i2:=by simpa using hi
    obtain rfl:=f2 rfl;refine wpOp_step ho2 (fun K hK=>hs2 v1 v3 v4 w1 hb K (fun x w2 hb2 hp=>hK _ _ ?_));have hz:=hb2.size;have hz0:=hb.size;exact⟨hb.trans (hb2.mono hz0),b1,true,b3,b4,v1,x,v3,v4,l1,h1,w1.heap.size,w2.heap.size,l3,h3,l4,h4,by simp only[cond_true,cond_false]at hk⊢;omega,hLs2 b1 false b3 b4,hAs2 _ _ _ _ x,hb.trans (hb2.mono hz0),f1,fun h=>⟨ht1 _ _ _ _ _ (t1 h).1 hb2,(t1 h).2.1,(t1 h).2.2.1,Nat.le_trans (t1 h).2.2.2 hz⟩,(by intro h;cases h),fun _=>⟨hp,hz0,hz,Nat.le_refl _⟩,f3,fun h=>⟨ht3 _ _ _ _ _ (t3 h).1 hb2,(t3 h).2.1,(t3 h).2.2.1,Nat.le_trans (t3 h).2.2.2 hz⟩,f4,fun h=>⟨ht4 _ _ _ _ _ (t4 h).1 hb2,(t4 h).2.1,(t4 h).2.2.1,Nat.le_trans (t4 h).2.2.2 hz⟩,fun h _=>.inl (t1 h).2.2.2,p13,p14,fun _ h=>.inr (t3 h).2.2.2,fun _ h=>.inr (t4 h).2.2.2,p34⟩
   ·have hb3:b3=false:=by
     cases b3 with
     |false=>rfl
     |true=>simp at hi
    subst hb3;obtain rfl:i=i3:=by simpa using hi
    obtain rfl:=f3 rfl;refine wpOp_step ho3 (fun K hK=>hs3 v1 v2 v4 w1 hb K (fun x w2 hb2 hp=>hK _ _ ?_));have hz:=hb2.size;have hz0:=hb.size;exact⟨hb.trans (hb2.mono hz0),b1,b2,true,b4,v1,v2,x,v4,l1,h1,l2,h2,w1.heap.size,w2.heap.size,l4,h4,by simp only[cond_true,cond_false]at hk⊢;omega,hLs3 b1 b2 false b4,hAs3 _ _ _ _ x,hb.trans (hb2.mono hz0),f1,fun h=>⟨ht1 _ _ _ _ _ (t1 h).1 hb2,(t1 h).2.1,(t1 h).2.2.1,Nat.le_trans (t1 h).2.2.2 hz⟩,f2,fun h=>⟨ht2 _ _ _ _ _ (t2 h).1 hb2,(t2 h).2.1,(t2 h).2.2.1,Nat.le_trans (t2 h).2.2.2 hz⟩,(by intro h;cases h),fun _=>⟨hp,hz0,hz,Nat.le_refl _⟩,f4,fun h=>⟨ht4 _ _ _ _ _ (t4 h).1 hb2,(t4 h).2.1,(t4 h).2.2.1,Nat.le_trans (t4 h).2.2.2 hz⟩,p12,fun h _=>.inl (t1 h).2.2.2,p14,fun h _=>.inl (t2 h).2.2.2,p24,fun _ h=>.inr (t4 h).2.2.2⟩
   ·have hb4:b4=false:=by
     cases b4 with
     |false=>rfl
     |true=>simp at hi
    subst hb4;obtain rfl:i=i4:=by simpa using hi
    obtain rfl:=f4 rfl;refine wpOp_step ho4 (fun K hK=>hs4 v1 v2 v3 w1 hb K (fun x w2 hb2 hp=>hK _ _ ?_));have hz:=hb2.size;have hz0:=hb.size;exact⟨hb.trans (hb2.mono hz0),b1,b2,b3,true,v1,v2,v3,x,l1,h1,l2,h2,l3,h3,w1.heap.size,w2.heap.size,by simp only[cond_true,cond_false]at hk⊢;omega,hLs4 b1 b2 b3 false,hAs4 _ _ _ _ x,hb.trans (hb2.mono hz0),f1,fun h=>⟨ht1 _ _ _ _ _ (t1 h).1 hb2,(t1 h).2.1,(t1 h).2.2.1,Nat.le_trans (t1 h).2.2.2 hz⟩,f2,fun h=>⟨ht2 _ _ _ _ _ (t2 h).1 hb2,(t2 h).2.1,(t2 h).2.2.1,Nat.le_trans (t2 h).2.2.2 hz⟩,f3,fun h=>⟨ht3 _ _ _ _ _ (t3 h).1 hb2,(t3 h).2.1,(t3 h).2.2.1,Nat.le_trans (t3 h).2.2.2 hz⟩,(by intro h;cases h),fun _=>⟨hp,hz0,hz,Nat.le_refl _⟩,p12,p13,fun h _=>.inl (t1 h).2.2.2,p23,fun h _=>.inl (t2 h).2.2.2,fun h _=>.inl (t3 h).2.2.2⟩
 case fin=>
  rintro listed a w1 ⟨b1,b2,b3,b4,v1,v2,v3,v4,l1,h1,l2,h2,l3,h3,l4,h4,hk,rfl,rfl,hb,f1,t1,f2,t2,f3,t3,f4,t4,p12,p13,p14,p23,p24,p34⟩;have e1:b1=true:=by cases b1<;>simp only[cond_true,cond_false]at hk<;>first|rfl|omega
  have e2:b2=true:=by cases b2<;>simp only[cond_true,cond_false]at hk<;>first|rfl|omega
  have e3:b3=true:=by cases b3<;>simp only[cond_true,cond_false]at hk<;>first|rfl|omega
  have e4:b4=true:=by cases b4<;>simp only[cond_true,cond_false]at hk<;>first|rfl|omega
  subst e1 e2 e3 e4;exact rest v1 v2 v3 v4 l1 h1 l2 h2 l3 h3 l4 h4 w1 hb (t1 rfl).1 (t1 rfl).2.1 (t1 rfl).2.2.1 (t1 rfl).2.2.2 (t2 rfl).1 (t2 rfl).2.1 (t2 rfl).2.2.1 (t2 rfl).2.2.2 (t3 rfl).1 (t3 rfl).2.1 (t3 rfl).2.2.1 (t3 rfl).2.2.2 (t4 rfl).1 (t4 rfl).2.1 (t4 rfl).2.2.1 (t4 rfl).2.2.2 (p12 rfl rfl) (p13 rfl rfl) (p14 rfl rfl) (p23 rfl rfl) (p24 rfl rfl) (p34 rfl rfl)
 case init=>
  exact⟨false,false,false,false,u1,u2,u3,u4,0,0,0,0,0,0,0,0,rfl,hL.symm,hA.symm,hw,fun _=>rfl,(by intro h;cases h),fun _=>rfl,(by intro h;cases h),fun _=>rfl,(by intro h;cases h),fun _=>rfl,(by intro h;cases h),(by intro h;cases h),(by intro h;cases h),(by intro h;cases h),(by intro h;cases h),(by intro h;cases h),(by intro h;cases h)⟩
theorem wpAnyJ_lit2{P:Program}{ops:Array Oper}{Q:Exit→Act→World→Prop}{md:Region.Mode}{J:Nat→Bool}{w0:World}{L0:Array Bool}{A0:Act}{w:World}{fuel:Nat}
 (i1 i2 i3 i4:Nat)(d1 d2 d3 d4:Tmp)(u1 u2 u3 u4:Value){o1 o2 o3 o4:Oper}(f:Value→Value→Value)
 (P1 P2 P4:Nat→Nat→Value→World→Prop)
 (ho1:ops[i1]? =some o1)(hd1:o1.dst=some d1)(ho2:ops[i2]? =some o2)(hd2:o2.dst=some d2)(ho3:ops[i3]? =some o3)(hd3:o3.dst=some d3)(ho4:ops[i4]? =some o4)(hd4:o4.dst=some d4)
 (hA:A4 d1 d2 d3 d4 A0 u1 u2 u3 u4=A0)(hL:L4 i1 i2 i3 i4 L0 false false false false=L0)
 (ni12:i1≠i2)(nd12:d1≠d2)(ni13:i1≠i3)(nd13:d1≠d3)(ni14:i1≠i4)(nd14:d1≠d4)(ni23:i2≠i3)(nd23:d2≠d3)(ni24:i2≠i4)(nd24:d2≠d4)(ni34:i3≠i4)(nd34:d3≠d4)
 (hr:∀b1 b2 b3 b4,(b1&&b2&&b3&&b4)=false→(b3=true→(b1&&b2)=true)→Region.ready md ops (L4 i1 i2 i3 i4 L0 b1 b2 b3 b4)=(bif b1 then[]else[i1])++(bif b2 then[]else[i2])++(bif (b1&&b2&& !b3)then[i3]else[])++(bif b4 then[]else[i4]))
 (ht1:∀lo hi x w w',P1 lo hi x w→Below w.heap.size w w'→P1 lo hi x w')(ht2:∀lo hi x w w',P2 lo hi x w→Below w.heap.size w w'→P2 lo hi x w')(ht4:∀lo hi x w w',P4 lo hi x w→Below w.heap.size w w'→P4 lo hi x w')
 (hs1:∀(v2 v3 v4:Value) (w1:World),Below w0.heap.size w0 w1→∀K:Act→World→Prop,(∀x w2,Below w1.heap.size w1 w2→P1 w1.heap.size w2.heap.size x w2→K ((A4 d1 d2 d3 d4 A0 u1 v2 v3 v4).put (some d1) x) w2)→if Region.wanted o1 (yielded ops (A4 d1 d2 d3 d4 A0 u1 v2 v3 v4).tmps)=true then Oper.wp P o1 (A4 d1 d2 d3 d4 A0 u1 v2 v3 v4) w1 K Q else K ((A4 d1 d2 d3 d4 A0 u1 v2 v3 v4).put o1.dst undef) w1)
 (hs2:∀(v1 v3 v4:Value) (w1:World),Below w0.heap.size w0 w1→∀K:Act→World→Prop,(∀x w2,Below w1.heap.size w1 w2→P2 w1.heap.size w2.heap.size x w2→K ((A4 d1 d2 d3 d4 A0 v1 u2 v3 v4).put (some d2) x) w2)→if Region.wanted o2 (yielded ops (A4 d1 d2 d3 d4 A0 v1 u2 v3 v4).tmps)=true then Oper.wp P o2 (A4 d1 d2 d3 d4 A0 v1 u2 v3 v4) w1 K Q else K ((A4 d1 d2 d3 d4 A0 v1 u2 v3 v4).put o2.dst undef) w1)
 (hs3:∀(v1 v2 v4:Value) (l1 h1 l2 h2:Nat) (w1:World),Below w0.heap.size w0 w1→P1 l1 h1 v1 w1→P2 l2 h2 v2 w1→∀K:Act→World→Prop,K ((A4 d1 d2 d3 d4 A0 v1 v2 u3 v4).put (some d3) (f v1 v2)) w1→if Region.wanted o3 (yielded ops (A4 d1 d2 d3 d4 A0 v1 v2 u3 v4).tmps)=true then Oper.wp P o3 (A4 d1 d2 d3 d4 A0 v1 v2 u3 v4) w1 K Q else K ((A4 d1 d2 d3 d4 A0 v1 v2 u3 v4).put o3.dst undef) w1)
 (hs4:∀(v1 v2 v3:Value) (w1:World),Below w0.heap.size w0 w1→∀K:Act→World→Prop,(∀x w2,Below w1.heap.size w1 w2→P4 w1.heap.size w2.heap.size x w2→K ((A4 d1 d2 d3 d4 A0 v1 v2 v3 u4).put (some d4) x) w2)→if Region.wanted o4 (yielded ops (A4 d1 d2 d3 d4 A0 v1 v2 v3 u4).tmps)=true then Oper.wp P o4 (A4 d1 d2 d3 d4 A0 v1 v2 v3 u4) w1 K Q else K ((A4 d1 d2 d3 d4 A0 v1 v2 v3 u4).put o4.dst undef) w1)
 (rest:∀(v1 v2 v4:Value) (l1 h1 l2 h2 l4 h4:Nat) (w1:World),Below w0.heap.size w0 w1→P1 l1 h1 v1 w1→w0.heap.size≤l1→l1≤h1→h1≤w1.heap.size→P2 l2 h2 v2 w1→w0.heap.size≤l2→l2≤h2→h2≤w1.heap.size→P4 l4 h4 v4 w1→w0.heap.size≤l4→l4≤h4→h4≤w1.heap.size→(h1≤l2∨h2≤l1)→(h1≤l4∨h4≤l1)→(h2≤l4∨h4≤l2)→wpAnyJ P md ops Q (Below w0.heap.size w0) J fuel (L4 i1 i2 i3 i4 L0 true true true true) (A4 d1 d2 d3 d4 A0 v1 v2 (f v1 v2) v4) w1)
 (hw:Below w0.heap.size w0 w):wpAnyJ P md ops Q (Below w0.heap.size w0) J (fuel+4) L0 A0 w:=by
 have hLs1:∀b1 b2 b3 b4,(L4 i1 i2 i3 i4 L0 b1 b2 b3 b4).setIfInBounds i1 true=L4 i1 i2 i3 i4 L0 true b2 b3 b4:=by
  intro b1 b2 b3 b4;unfold L4;rw[uT _ ni14 _ _,uT _ ni13 _ _,uT _ ni12 _ _,Array.setIfInBounds_setIfInBounds]
 have hAs1:∀v1 v2 v3 v4 x,(A4 d1 d2 d3 d4 A0 v1 v2 v3 v4).put (some d1) x=A4 d1 d2 d3 d4 A0 x v2 v3 v4:=by
  intro v1 v2 v3 v4 x;unfold A4;rw[uU _ nd14 _ _,uU _ nd13 _ _,uU _ nd12 _ _,put_twice]
 have hLs2:∀b1 b2 b3 b4,(L4 i1 i2 i3 i4 L0 b1 b2 b3 b4).setIfInBounds i2 true=L4 i1 i2 i3 i4 L0 b1 true b3 b4:=by
  intro b1 b2 b3 b4;unfold L4;rw[uT _ ni24 _ _,uT _ ni23 _ _,Array.setIfInBounds_setIfInBounds]
 have hAs2:∀v1 v2 v3 v4 x,(A4 d1 d2 d3 d4 A0 v1 v2 v3 v4).put (some d2) x=A4 d1 d2 d3 d4 A0 v1 x v3 v4:=by
  intro v1 v2 v3 v4 x;unfold A4;rw[uU _ nd24 _ _,uU _ nd23 _ _,put_twice]
 have hLs3:∀b1 b2 b3 b4,(L4 i1 i2 i3 i4 L0 b1 b2 b3 b4).setIfInBounds i3 true=L4 i1 i2 i3 i4 L0 b1 b2 true b4:=by
  intro b1 b2 b3 b4;unfold L4;rw[uT _ ni34 _ _,Array.setIfInBounds_setIfInBounds]
 have hAs3:∀v1 v2 v3 v4 x,(A4 d1 d2 d3 d4 A0 v1 v2 v3 v4).put (some d3) x=A4 d1 d2 d3 d4 A0 v1 v2 x v4:=by
  intro v1 v2 v3 v4 x;unfold A4;rw[uU _ nd34 _ _,put_twice]
 have hLs4:∀b1 b2 b3 b4,(L4 i1 i2 i3 i4 L0 b1 b2 b3 b4).setIfInBounds i4 true=L4 i1 i2 i3 i4 L0 b1 b2 b3 true:=by
  intro b1 b2 b3 b4;unfold L4;rw[Array.setIfInBounds_setIfInBounds]
 have hAs4:∀v1 v2 v3 v4 x,(A4 d1 d2 d3 d4 A0 v1 v2 v3 v4).put (some d4) x=A4 d1 d2 d3 d4 A0 v1 v2 v3 x:=by
  intro v1 v2 v3 v4 x;unfold A4;rw[put_twice]
 refine wpAnyJ_go (fun(k:Nat) (listed:Array Bool) (a:Act) (w1:World)=>∃(b1 b2 b3 b4:Bool) (v1 v2 v3 v4:Value) (l1 h1 l2 h2 l4 h4:Nat),(bif b1 then 0 else 1)+(bif b2 then 0 else 1)+(bif b3 then 0 else 1)+(bif b4 then 0 else 1)=k∧listed=L4 i1 i2 i3 i4 L0 b1 b2 b3 b4∧a=A4 d1 d2 d3 d4 A0 v1 v2 v3 v4∧Below w0.heap.size w0 w1∧(b3=false→v3=u3)∧(b3=true→(b1&&b2)=true∧v3=f v1 v2)∧(b1=false→v1=u1)∧(b1=true→P1 l1 h1 v1 w1∧w0.heap.size≤l1∧l1≤h1∧h1≤w1.heap.size)∧(b2=false→v2=u2)∧(b2=true→P2 l2 h2 v2 w1∧w0.heap.size≤l2∧l2≤h2∧h2≤w1.heap.size)∧(b4=false→v4=u4)∧(b4=true→P4 l4 h4 v4 w1∧w0.heap.size≤l4∧l4≤h4∧h4≤w1.heap.size)∧(b1=true→b2=true→h1≤l2∨h2≤l1)∧(b1=true→b4=true→h1≤l4∨h4≤l1)∧(b2=true→b4=true→h2≤l4∨h4≤l2)) ?step fuel ?fin 4 L0 A0 w ?init
 case step=>
  rintro k listed a w1 ⟨b1,b2,b3,b4,v1,v2,v3,v4,l1,h1,l2,h2,l4,h4,hk,rfl,rfl,hb,fB,tB,f1,t1,f2,t2,f4,t4,p12,p14,p24⟩;have hall:(b1&&b2&&b3&&b4)=false:=by
   cases h:(b1&&b2&&b3&&b4)with
   |false=>rfl
   |true=>
    simp only[Bool.and_eq_true]at h;simp[h]at hk
  rw[hr b1 b2 b3 b4 hall (fun h=>(tB h).1)];refine⟨?_,fun i hi=>?_⟩
  ·intro h;simp only[List.append_eq_nil_iff]at h;have e1:b1=true:=by
    cases b1 with
    |true=>rfl
    |false=>simp at h
   have e2:b2=true:=by
    cases b2 with
    |true=>rfl
    |false=>simp at h
   have e4:b4=true:=by
    cases b4 with
    |true=>rfl
    |false=>simp at h
   have e3:b3=true:=by
    cases b3 with
    |true=>rfl
    |false=>simp[e1,e2]at h
   simp[e1,e2,e3,e4]at hall
  ·simp only[List.mem_append]at hi;rcases hi with((hi|hi)|hi)|hi
   ·have hb1:b1=false:=by
     cases b1 with
     |false=>rfl
     |true=>simp at hi
    subst hb1;obtain rfl:i=i1:=by simpa using hi
    obtain rfl:=f1 rfl;refine wpOp_step ho1 (fun K hK=>hs1 v2 v3 v4 w1 hb K (fun x w2 hb2 hp=>hK _ _ ?_));have hz:=hb2.size;have hz0:=hb.size;exact⟨hb.trans (hb2.mono hz0),true,b2,b3,b4,x,v2,v3,v4,w1.heap.size,w2.heap.size,l2,h2,l4,h4,by simp only[cond_true,cond_false]at hk⊢;omega,hLs1 false b2 b3 b4,hAs1 _ _ _ _ x,hb.trans (hb2.mono hz0),fB,fun h=>absurd (tB h).1 (by simp),(by intro h;cases h),fun _=>⟨hp,hz0,hz,Nat.le_refl _⟩,f2,fun h=>⟨ht2 _ _ _ _ _ (t2 h).1 hb2,(t2 h).2.1,(t2 h).2.2.1,Nat.le_trans (t2 h).2.2.2 hz⟩,f4,fun h=>⟨ht4 _ _ _ _ _ (t4 h).1 hb2,(t4 h).2.1,(t4 h).2.2.1,Nat.le_trans (t4 h).2.2.2 hz⟩,fun _ h=>.inr (t2 h).2.2.2,fun _ h=>.inr (t4 h).2.2.2,p24⟩
   ·have hb2:b2=false:=by
     cases b2 with
     |false=>rfl
     |true=>simp at hi
    subst hb2;obtain rfl:i=i2:=by simpa using hi
    obtain rfl:=f2 rfl;refine wpOp_step ho2 (fun K hK=>hs2 v1 v3 v4 w1 hb K (fun x w2 hb2 hp=>hK _ _ ?_));have hz:=hb2.size;have hz0:=hb.size;exact⟨hb.trans (hb2.mono hz0),b1,true,b3,b4,v1,x,v3,v4,l1,h1,w1.heap.size,w2.heap.size,l4,h4,by simp only[cond_true,cond_false]at hk⊢;omega,hLs2 b1 false b3 b4,hAs2 _ _ _ _ x,hb.trans (hb2.mono hz0),fB,fun h=>absurd (tB h).1 (by simp),f1,fun h=>⟨ht1 _ _ _ _ _ (t1 h).1 hb2,(t1 h).2.1,(t1 h).2.2.1,Nat.le_trans (t1 h).2.2.2 hz⟩,(by intro h;cases h),fun _=>⟨hp,hz0,hz,Nat.le_refl _⟩,f4,fun h=>⟨ht4 _ _ _ _ _ (t4 h).1 hb2,(t4 h).2.1,(t4 h).2.2.1,Nat.le_trans (t4 h).2.2.2 hz⟩,fun h _=>.inl (t1 h).2.2.2,p14,fun _ h=>.inr (t4 h).2.2.2⟩
   ·have hc:(b1&&b2)=true∧b3=false:=by
     cases hc1:(b1&&b2)<;>cases hc2:b3<;>simp[hc1,hc2]at hi⊢
    have hi2:i=i3:=by
     rw[hc.1,hc.2]at hi;simpa using hi
    subst hi2;obtain⟨hc1,hc2⟩:=hc;subst hc2;obtain rfl:=fB rfl;have hcc:=hc1;simp only[Bool.and_eq_true]at hcc;have g1:=(t1 hcc.1).1;have g2:=(t2 hcc.2).1;refine wpOp_step ho3 (fun K hK=>hs3 v1 v2 v4 l1 h1 l2 h2 w1 hb g1 g2 K (hK _ _ ?_));exact⟨hb,b1,b2,true,b4,v1,v2,_,v4,l1,h1,l2,h2,l4,h4,by simp only[cond_true,cond_false]at hk⊢;omega,hLs3 b1 b2 false b4,hAs3 _ _ _ _ _,hb,(by intro h;cases h),fun _=>⟨hc1,rfl⟩,f1,t1,f2,t2,f4,t4,p12,p14,p24⟩
   ·have hb4:b4=false:=by
     cases b4 with
     |false=>rfl
     |true=>simp at hi
    subst hb4;obtain rfl:i=i4:=by simpa using hi
    obtain rfl:=f4 rfl;refine wpOp_step ho4 (fun K hK=>hs4 v1 v2 v3 w1 hb K (fun x w2 hb2 hp=>hK _ _ ?_));have hz:=hb2.size;have hz0:=hb.size;exact⟨hb.trans (hb2.mono hz0),b1,b2,b3,true,v1,v2,v3,x,l1,h1,l2,h2,w1.heap.size,w2.heap.size,by simp only[cond_true,cond_false]at hk⊢;omega,hLs4 b1 b2 b3 false,hAs4 _ _ _ _ x,hb.trans (hb2.mono hz0),fB,tB,f1,fun h=>⟨ht1 _ _ _ _ _ (t1 h).1 hb2,(t1 h).2.1,(t1 h).2.2.1,Nat.le_trans (t1 h).2.2.2 hz⟩,f2,fun h=>⟨ht2 _ _ _ _ _ (t2 h).1 hb2,(t2 h).2.1,(t2 h).2.2.1,Nat.le_trans (t2 h).2.2.2 hz⟩,(by intro h;cases h),fun _=>⟨hp,hz0,hz,Nat.le_refl _⟩,p12,fun h _=>.inl (t1 h).2.2.2,fun h _=>.inl (t2 h).2.2.2⟩
 case fin=>
  rintro listed a w1 ⟨b1,b2,b3,b4,v1,v2,v3,v4,l1,h1,l2,h2,l4,h4,hk,rfl,rfl,hb,fB,tB,f1,t1,f2,t2,f4,t4,p12,p14,p24⟩;have e1:b1=true:=by cases b1<;>simp only[cond_true,cond_false]at hk<;>first|rfl|omega
  have e2:b2=true:=by cases b2<;>simp only[cond_true,cond_false]at hk<;>first|rfl|omega
  have e3:b3=true:=by cases b3<;>simp only[cond_true,cond_false]at hk<;>first|rfl|omega
  have e4:b4=true:=by cases b4<;>simp only[cond_true,cond_false]at hk<;>first|rfl|omega
  subst e1 e2 e3 e4;obtain rfl:=(tB rfl).2;exact rest v1 v2 v4 l1 h1 l2 h2 l4 h4 w1 hb (t1 rfl).1 (t1 rfl).2.1 (t1 rfl).2.2.1 (t1 rfl).2.2.2 (t2 rfl).1 (t2 rfl).2.1 (t2 rfl).2.2.1 (t2 rfl).2.2.2 (t4 rfl).1 (t4 rfl).2.1 (t4 rfl).2.2.1 (t4 rfl).2.2.2 (p12 rfl rfl) (p14 rfl rfl) (p24 rfl rfl)
 case init=>
  exact⟨false,false,false,false,u1,u2,u3,u4,0,0,0,0,0,0,rfl,hL.symm,hA.symm,hw,fun _=>rfl,(by intro h;cases h),fun _=>rfl,(by intro h;cases h),fun _=>rfl,(by intro h;cases h),fun _=>rfl,(by intro h;cases h),(by intro h;cases h),(by intro h;cases h),(by intro h;cases h)⟩
end Go.Proofs.YtgbgbmdiomhfiaaGreatDoor