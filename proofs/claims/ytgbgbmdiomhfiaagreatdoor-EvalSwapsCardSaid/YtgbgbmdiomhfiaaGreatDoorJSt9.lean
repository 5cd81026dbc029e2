/-
 St5, St6, St7, St8, St9, St10.
-/
import Derived.Test.YtgbgbmdiomhfiaaGreatDoorJFlow3
import Derived.Test.YtgbgbmdiomhfiaaGreatDoorJSt4
set_option linter.unusedSimpArgs false
set_option linter.unusedVariables false
set_option maxHeartbeats 8000000
set_option maxRecDepth 100000
namespace Go.Proofs.YtgbgbmdiomhfiaaGreatDoor
open Go.RowKit Go.Maps
def met1(s:List Bool×List Int)(x:Int):List Bool×List Int:=if x≤-2∧-2-x<s.1.length∧s.1.getD (-2-x).toNat true=false then(s.1.set (-2-x).toNat true,s.2++[-2-x])else s
def metL(s:List Bool×List Int)(l:List Int):List Bool×List Int:=l.foldl met1 s
theorem metL_snoc(s:List Bool×List Int)(l:List Int)(x:Int):metL s (l++[x])=met1 (metL s l) x:=by unfold metL;rw[List.foldl_append];rfl
theorem metL_app(s:List Bool×List Int)(l m:List Int):metL s (l++m)=metL (metL s l) m:=by unfold metL;rw[List.foldl_append]
theorem met1_len(s:List Bool×List Int)(x:Int):(met1 s x).1.length=s.1.length:=by unfold met1;split<;>simp
theorem metL_len(l:List Int):∀s:List Bool×List Int,(metL s l).1.length=s.1.length:=by
 induction l with
 |nil=>intro s;rfl
 |cons x l ih=>intro s;show(metL (met1 s x) l).1.length=_;rw[ih,met1_len]
theorem count_set_true:∀(l:List Bool) (k:Nat),l.getD k true=false→(l.set k true).count false+1=l.count false
 | [],k,h=>by simp at h
 |b::l,0,h=>by simp at h;subst h;simp
 |b::l,k+1,h=>by
  have:=count_set_true l k (by simpa using h);simp only[List.set_cons_succ,List.count_cons];omega
structure MetW(s:List Bool×List Int):Prop where
 few:s.2.length+s.1.count false≤s.1.length
 inn:∀y∈s.2,0≤y∧y<s.1.length
theorem MetW.one{s:List Bool×List Int}(h:MetW s)(x:Int):MetW (met1 s x):=by
 unfold met1;split
 ·rename_i hx;refine⟨?_,?_⟩
  ·have:=h.few;have:=count_set_true s.1 _ hx.2.2;simp only[List.length_append,List.length_set,List.length_cons,List.length_nil];omega
  ·intro y hy;simp only[List.length_set];rcases List.mem_append.1 hy with hy|hy
   ·exact h.inn y hy
   ·simp at hy;subst hy;exact⟨by omega,hx.2.1⟩
 ·exact h
theorem MetW.all{s:List Bool×List Int}(h:MetW s)(l:List Int):MetW (metL s l):=by
 induction l generalizing s with
 |nil=>exact h
 |cons x l ih=>exact ih (h.one x)
structure MetAt(w:World)(base B0 bm gb bw:Nat)(A:Option Addr)(c:Nat)(us:List Bool)(wk:List Int):Prop where
 met:Blk w bm 98 #[.slice (some ⟨gb,0,none⟩) us.length us.length]
 row:Blk w gb 4 ⟨us.map .bool⟩
 wrk:Blk w bw 38 #[.slice A wk.length c]
 own:w.ownsRow base 3 1 (.slice A wk.length c) wk.length (ints wk)
 low:B0≤bm∧B0≤gb∧B0≤bw∧bm<base∧gb<base∧bw<base∧base≤w.heap.size∧gb≠bm∧gb≠bw∧bm≠bw
def MetPost(w:World)(base B0 bm gb bw:Nat)(s:List Bool×List Int)(e:Ending)(w':World):Prop:=e=.returned (.tuple #[])∧(∃A c,MetAt w' base B0 bm gb bw A c s.1 s.2)∧Below B0 w w'
theorem bools_cell{w:World}{g:Nat}{t:TypeId}{us:List Bool}(h:Blk w g t ⟨us.map .bool⟩){k:Nat}(hk:k<us.length):w.cell? ⟨g,k,none⟩=some (.bool (us.getD k true)):=by
 rw[h.cell];simp[List.getElem?_map,List.getElem?_eq_getElem hk,List.getD_eq_getElem?_getD]
theorem bools_put{w:World}{g:Nat}{t:TypeId}{us:List Bool}(h:Blk w g t ⟨us.map .bool⟩)(k:Nat)(b:Bool):Blk (w.setCell ⟨g,k,none⟩ (.bool b)) g t ⟨(us.set k b).map .bool⟩:=by
 have:=h.set_ k (.bool b);rw[List.map_set];simpa using this
theorem own_castS{w:World}{z:Nat}{T:TypeId}{size n m c:Nat}{A:Option Addr}{xs ys:List Value}(h:w.ownsRow z T size (.slice A n c) n xs)(e:n=m)(e2:xs=ys):w.ownsRow z T size (.slice A m c) m ys:=by
 subst e;subst e2;exact h
theorem met_any{w:World}{base B0 bm gb bw:Nat}{A0:Option Addr}{c0:Nat}{us:List Bool}{wk:List Int}(h:MetAt w base B0 bm gb bw A0 c0 us wk)(hW:MetW (us,wk))(hN:us.length≤1000000)(A:Option Addr)(c:Nat)(l:List Int)
 (hr:RdS w (fun b=>b<B0) 1 A l.length (ints l))(hlo:∀x∈l,-9223372036854775808≤x)(hl:l.length≤1000000):
 Calls Tryz.prog 120 #[.slice A l.length c,.pointer (some ⟨bm,0,none⟩),.pointer (some ⟨bw,0,none⟩)] w (MetPost w base B0 bm gb bw (metL (us,wk) l)):=by
 have HP:=eh (fun w' A' c' u1 k1 (h0:metL (us,wk) l=(u1,k1)) (h1:MetAt w' base B0 bm gb bw A' c' u1 k1) (h2:Below B0 w w')=>(show MetPost w base B0 bm gb bw (metL (us,wk) l) (.returned (.tuple #[])) w' from⟨rfl,by rw[h0];exact⟨A',c',h1⟩,h2⟩));generalize hPo:MetPost w base B0 bm gb bw (metL (us,wk) l)=Post at*;clear hPo;have HA:=eh hr;have HL:=eh hlo;have HW:=eh hW;have HN:=eh hN;clear hr hlo hW hN;go_enter Tryz.func120,Tryz.ntmps120;go_wp2;go_loopw [8] (fun iv wr=>∃(k:Nat) (A':Option Addr) (c':Nat) (u1:List Bool) (k1:List Int),k≤l.length∧iv=.int .i64 k∧Hid (metL (us,wk) (l.take k)=(u1,k1))∧MetAt wr base B0 bm gb bw A' c' u1 k1∧Below B0 w wr) (fun iv _=>l.length-(intOf iv).toNat)
 case atStart=>exact⟨0,A0,c0,us,wk,Nat.zero_le _,rfl,eh rfl,h,Below.refl _ _⟩
 case round=>
  clear h;obtain⟨k,A',c',u1,k1,hk,rfl,HE,hM,hB⟩:=hrel
  by_cases hlt:k<l.length
  ·have hlw:=hM.low;have hbs:=hB.size;obtain⟨b,off,rfl,hbb,x0⟩:=uX ((HA.out.keep (Kept.of_below hB (fun b q=>q))).rd (B:=B0) (fun b q=>q)) hlt;have hxl:=HL.out (l[k]?.getD 0) (by rw[List.getElem?_eq_getElem hlt];exact List.getElem_mem hlt);have k1':(k:Int)<l.length:=by omega
   have Htk:=eh (show metL (us,wk) (l.take (k+1))=met1 (u1,k1) (l[k]?.getD 0) by rw[←HE.out,←metL_snoc,List.take_succ_eq_append_getElem hlt,List.getElem?_eq_getElem hlt];rfl);have HWk:=eh (show MetW (u1,k1) by have:=HW.out.all (l.take k);rw[HE.out]at this;exact this);have hul:u1.length≤1000000:=by have:=metL_len (l.take k) (us,wk);rw[HE.out]at this;simp only at this;rw[this];exact HN.out
   have HM:=eh hM;have m0:=hM.met.at0;have lm:=hM.met.lt;have lg:=hM.row.lt;have lb:=hM.wrk.lt;have w0:=hM.wrk.at0;generalize l[k]?.getD 0=x at*
   by_cases hx:x≤-2
   ·have hw:wrap64 (-2-x)= -2-x:=by unfold wrap64;omega
    have g1:decide (x≤-2)=true:=by simpa using hx
    have Hi:=eh (ssaIn_any (-2-x) u1.length wr)
    by_cases hx1: -2-x<u1.length
    ·obtain⟨q,hq⟩:∃q:Nat,-2-x=q:=⟨(-2-x).toNat,by omega⟩;have hq1:q<u1.length:=by omega
     have hib:inB (-2-x) u1.length=true:=by unfold inB;simp;omega
     have y0:=bools_cell hM.row hq1;have fq:=hM.row.frozen q;rw[hib]at Hi;rw[hq]at Hi hw;cases hu:u1.getD q true with
     |false=>
      rw[hu]at y0;have Hnew:=eh (show metL (us,wk) (l.take (k+1))=(u1.set q true,k1++[(q:Int)]) by rw[Htk.out];unfold met1;rw[if_pos ⟨hx,hx1,by rw[hq];simpa using hu⟩,hq];rfl);have hrow':=bools_put hM.row q true;clear hx1 Htk hib hu;go_upto_region 5 with(go_at_call 41;refine Hi.out.mono ?_;rintro e w' ⟨rfl,rfl⟩);have hgs:=uA wr ⟨gb,q,none⟩ (.bool true);have b1:=hM.met.far (p:=⟨gb,q,none⟩) (fun e=>hlw.2.2.2.2.2.2.2.1 e.symm) (.bool true);have b2:=hM.wrk.far (p:=⟨gb,q,none⟩) (fun e=>hlw.2.2.2.2.2.2.2.2.1 e.symm) (.bool true);have own2:=uS hM.own hgs (.inl (uF hlw.2.2.2.2.1 hM.own));have hB2:=hB.setCell (p:=⟨gb,q,none⟩) hlw.2.1 (.bool true);have hfew:=HWk.out.few;have hsz:(wr.setCell ⟨gb,q,none⟩ (.bool true)).heap.size=wr.heap.size:=by simp
      have hbase:base≤(wr.setCell ⟨gb,q,none⟩ (.bool true)).heap.size:=by rw[hsz];exact hlw.2.2.2.2.2.2.1
      have hk1:k1.length≤1000000:=by simp only at hfew;omega
      clear hfew hsz hgs hM m0 w0 y0 fq lm lg lb x0;generalize wr.setCell ⟨gb,q,none⟩ (.bool true)=w3 at*;have y2:=b2.at0;have lb:=b2.lt;go_wp2_with (at_builtin
                                                                                                                                                      refine wpList_append_row rfl (.tmp 33) (.tmp 36) 38 rfl base 3 _ 1 8 Tryz.underlying38 infoIntR rfl (by omega) A' c' k1.length (ints k1) rfl (own2.alloc _) w3.heap.size 1 1 3 [.int .i64 (q:Int)] rfl (Blk.new _ _ _) rfl (by intro u hu;simp at hu;subst hu;rfl) (by unfold maxLen;omega) (by omega) (by simp;omega) ?_;intro A3 c3 w1 hown3 hg3 hat3;have r3:=(hrow'.alloc _).grown hg3 (fun e=>uF (g:=gb) hlw.2.2.2.2.1 own2 e.symm);have m3:=(b1.alloc _).grown hg3 (fun e=>uF (g:=bm) hlw.2.2.2.1 own2 e.symm);have f3:=(b2.alloc _).grown hg3 (fun e=>uF (g:=bw) hlw.2.2.2.2.2.1 own2 e.symm);have lf3:=f3.lt;have hb3:=(hB2.alloc (by omega) _).grown hg3 (by simp;omega) (fun k hk=>by have:=(own2.lt k hk).1;omega);have fz:=f3.frozen 0;have y5:=f3.at0)
      go_roundw
      case rel=>exact⟨k+1,A3,c3,u1.set q true,k1++[(q:Int)],by omega,by go_num,Hnew,⟨by simpa using m3.far (p:=⟨bw,0,none⟩) hlw.2.2.2.2.2.2.2.2.2 _,r3.far (p:=⟨bw,0,none⟩) hlw.2.2.2.2.2.2.2.2.1 _,by simpa using f3.set_ 0 (.slice A3 (k1.length+1) c3),own_castS (uS hown3 (uA _ ⟨bw,0,none⟩ _) (.inl (uF hlw.2.2.2.2.2.1 hown3))) (by simp) (by simp[ints]),⟨hlw.1,hlw.2.1,hlw.2.2.1,hlw.2.2.2.1,hlw.2.2.2.2.1,hlw.2.2.2.2.2.1,by have:=hg3.size;simp at this⊢;omega,hlw.2.2.2.2.2.2.2⟩⟩,hb3.setCell (p:=⟨bw,0,none⟩) hlw.2.2.1 _⟩
      case measure=>simp[intOf];omega
     |true=>
      rw[hu]at y0;have Hnew:=eh (show metL (us,wk) (l.take (k+1))=(u1,k1) by rw[Htk.out];unfold met1;rw[if_neg (fun h=>by have:=h.2.2;rw[hq]at this;simp only[Int.toNat_natCast]at this;rw[hu]at this;cases this)]);clear hx1 Htk hib hu hM;go_wp2_with (go_at_call 41;refine Hi.out.mono ?_;rintro e w' ⟨rfl,rfl⟩);go_roundw
      case rel=>exact⟨k+1,A',c',u1,k1,by omega,by go_num,Hnew,HM.out,hB⟩
      case measure=>simp[intOf];omega
    ·have Hnew:=eh (show metL (us,wk) (l.take (k+1))=(u1,k1) by rw[Htk.out];unfold met1;rw[if_neg (fun h=>hx1 h.2.1)]);have hib:inB (-2-x) u1.length=false:=by unfold inB;simp;omega
     rw[hib]at Hi;clear hx1 Htk hib hM;go_wp2_with (go_at_call 41;refine Hi.out.mono ?_;rintro e w' ⟨rfl,rfl⟩);go_roundw
     case rel=>exact⟨k+1,A',c',u1,k1,by omega,by go_num,Hnew,HM.out,hB⟩
     case measure=>simp[intOf];omega
   ·have Hnew:=eh (show metL (us,wk) (l.take (k+1))=(u1,k1) by rw[Htk.out];unfold met1;rw[if_neg (fun h=>hx h.1)]);have g1:decide (x≤-2)=false:=by simpa using hx
    clear hx Htk hM;go_wp2;go_roundw
    case rel=>exact⟨k+1,A',c',u1,k1,by omega,by go_num,Hnew,HM.out,hB⟩
    case measure=>simp[intOf];omega
  ·have e:k=l.length:=by omega
   subst e;have HF:=eh (HP.out wr A' c' u1 k1 (by have:=HE.out;simpa using this) hM hB);clear hlt HP;go_wp2;exact bodyPost_end (v:=.tuple #[]) (by simp[results,Tryz.results120]) rfl HF.out
inductive Met(n:Nat)(roots:List Int)(fields:Nat→List Int):Nat→Prop
 |root {x:Int} (h:x∈roots) (h1:x≤-2) (h2: -2-x<n):Met n roots fields (-2-x).toNat
 |field {v:Nat} {x:Int} (hv:Met n roots fields v) (h:x∈fields v) (h1:x≤-2) (h2: -2-x<n):Met n roots fields (-2-x).toNat
def SeenX(us:List Bool)(x:Int):Prop:=x≤-2→-2-x<us.length→us.getD (-2-x).toNat true=true
theorem set_true_getD(us:List Bool)(k j:Nat):(us.set k true).getD j true=true↔j=k∨us.getD j true=true:=by
 simp only[List.getD_eq_getElem?_getD,List.getElem?_set]
 by_cases e:k=j
 ·subst e
  by_cases h:k<us.length<;>simp[h]
 ·simp[e,Ne.symm e]
structure MetD(s t:List Bool×List Int)(l:List Int):Prop where
 len:t.1.length=s.1.length
 mono:∀j:Nat,s.1.getD j true=true→t.1.getD j true=true
 wmono:∀y∈s.2,y∈t.2
 seen:∀x∈l,SeenX t.1 x
 new:∀j:Nat,t.1.getD j true=true→s.1.getD j true=true∨((j:Int)∈t.2∧j<s.1.length∧∃x∈l,x≤-2∧-2-x=j)
 cnt:t.1.count false+t.2.length=s.1.count false+s.2.length
 wnew:∀y∈t.2,y∈s.2∨t.1.getD y.toNat true=true
theorem met1_d(s:List Bool×List Int)(x:Int):MetD s (met1 s x) [x]:=by
 unfold met1;split
 ·rename_i h;obtain⟨h1,h2,h3⟩:=h;refine⟨by simp,fun j hj=>(set_true_getD _ _ _).2 (.inr hj),fun y hy=>List.mem_append_left _ hy,?_,?_,?_,fun y hy=>(List.mem_append.1 hy).imp id (fun q=>(set_true_getD _ _ _).2 (.inl (by rw[List.mem_singleton.1 q])))⟩
  ·intro y hy q1 q2;cases List.mem_singleton.1 hy;exact(set_true_getD _ _ _).2 (.inl rfl)
  ·intro j hj;rcases(set_true_getD _ _ _).1 hj with e|e
   ·refine .inr ⟨List.mem_append_right _ (by simp;omega),by omega,x,by simp,h1,by omega⟩
   ·exact .inl e
  ·have:=count_set_true s.1 _ h3;simp only[List.length_append,List.length_cons,List.length_nil];omega
 ·rename_i h;refine⟨rfl,fun _ h=>h,fun _ h=>h,?_,fun j hj=>.inl hj,rfl,fun _ h=>.inl h⟩;intro y hy q1 q2;cases List.mem_singleton.1 hy;cases hb:s.1.getD (-2-x).toNat true with
  |true=>rfl
  |false=>exact absurd ⟨q1,q2,hb⟩ h
theorem metL_d(l:List Int):∀s:List Bool×List Int,MetD s (metL s l) l:=by
 induction l with
 |nil=>exact fun s=>⟨rfl,fun _ h=>h,fun _ h=>h,fun x hx=>(by cases hx),fun _ h=>.inl h,rfl,fun _ h=>.inl h⟩
 |cons x l ih=>
  intro s;have h1:=met1_d s x;have h2:=ih (met1 s x);show MetD s (metL (met1 s x) l) (x::l);refine⟨h2.len.trans h1.len,fun j hj=>h2.mono j (h1.mono j hj),fun y hy=>h2.wmono y (h1.wmono y hy),?_,?_,h2.cnt.trans h1.cnt,fun y hy=>(h2.wnew y hy).elim (fun q=>(h1.wnew y q).imp id (fun q=>h2.mono _ q)) .inr⟩
  ·intro y hy;rcases List.mem_cons.1 hy with e|e
   ·subst e;intro q1 q2;exact h2.mono _ (h1.seen y (by simp) q1 (by rw[←h2.len];exact q2))
   ·exact h2.seen y e
  ·intro j hj;rcases h2.new j hj with q|⟨q1,q2,y,q3,q4,q5⟩
   ·rcases h1.new j q with r|⟨r1,r2,y,r3,r4,r5⟩
    ·exact .inl r
    ·exact .inr ⟨h2.wmono _ r1,r2,y,List.mem_cons.2 (.inl (by simpa using r3)),r4,r5⟩
   ·exact .inr ⟨q1,by rw[←h1.len];exact q2,y,List.mem_cons_of_mem _ q3,q4,q5⟩
structure MetJ(n:Nat)(roots:List Int)(fields:Nat→List Int)(s:List Bool×List Int):Prop where
 len:s.1.length=n
 w:MetW s
 sound:∀v:Nat,v<n→s.1.getD v true=true→Met n roots fields v
 root:∀x∈roots,SeenX s.1 x
 clo:∀v:Nat,v<n→s.1.getD v true=true→(v:Int)∈s.2∨∀x∈fields v,SeenX s.1 x
 wm:∀y∈s.2,s.1.getD y.toNat true=true
theorem MetJ.start(n:Nat)(roots:List Int)(fields:Nat→List Int):MetJ n roots fields (metL (List.replicate n false,[]) roots):=by
 have h:=metL_d roots (List.replicate n false,[]);have hl:(metL (List.replicate n false,[]) roots).1.length=n:=by rw[h.len];simp
 have h0:∀v:Nat,v<n→¬(List.replicate n false).getD v true=true:=fun v hv=>by simp[List.getD_eq_getElem?_getD,List.getElem?_replicate,hv]
 have hs:MetW (List.replicate n false,[]):=⟨by simp,fun y hy=>by cases hy⟩;refine⟨hl,hs.all roots,?_,h.seen,?_,fun y hy=>(h.wnew y hy).elim (fun q=>by cases q) id⟩
 ·intro v hv hm;rcases h.new v hm with q|⟨-,-,x,q1,q2,q3⟩
  ·exact absurd q (h0 v hv)
  ·have:=Met.root (fields:=fields) q1 q2 (n:=n) (by omega);rw[q3]at this;exact this
 ·intro v hv hm;rcases h.new v hm with q|⟨q,-⟩
  ·exact absurd q (h0 v hv)
  ·exact .inl q
theorem MetJ.step{n:Nat}{roots:List Int}{fields:Nat→List Int}{us:List Bool}{wk:List Int}{v:Nat}(h:MetJ n roots fields (us,wk++[(v:Int)])):MetJ n roots fields (metL (us,wk) (fields v)):=by
 have hd:=metL_d (fields v) (us,wk);have hlen:us.length=n:=h.len;have hl:(metL (us,wk) (fields v)).1.length=n:=by rw[hd.len];exact hlen
 have hvn:v<n:=by have:=(h.w.inn (v:Int) (by simp)).2;simp only at this;omega
 have hv:us.getD v true=true:=h.wm (v:Int) (by simp);have hmv:=h.sound v hvn hv;have hw:MetW (us,wk):=⟨by have:=h.w.few;simp only[List.length_append]at this⊢;omega,fun y hy=>h.w.inn y (List.mem_append_left _ hy)⟩;have mono:∀x,SeenX us x→SeenX (metL (us,wk) (fields v)).1 x:=fun x hx q1 q2=>hd.mono _ (hx q1 (by rw[←hd.len];exact q2))
 refine⟨hl,hw.all _,?_,fun x hx=>mono x (h.root x hx),?_,fun y hy=>(hd.wnew y hy).elim (fun q=>hd.mono _ (h.wm y (List.mem_append_left _ q))) id⟩
 ·intro j hj hm;rcases hd.new j hm with q|⟨-,-,x,q1,q2,q3⟩
  ·exact h.sound j hj q
  ·have:=Met.field hmv q1 q2 (by omega);rw[q3]at this;exact this
 ·intro j hj hm;rcases hd.new j hm with q|⟨q,-⟩
  ·rcases h.clo j hj q with r|r
   ·rcases List.mem_append.1 r with r|r
    ·exact .inl (hd.wmono _ r)
    ·have e:j=v:=by simp at r;omega
     subst e;exact .inr hd.seen
   ·exact .inr fun x hx=>mono x (r x hx)
  ·exact .inl q
theorem MetJ.fin{n:Nat}{roots:List Int}{fields:Nat→List Int}{us:List Bool}(h:MetJ n roots fields (us,[]))(v:Nat)(hv:v<n):us.getD v true=true↔Met n roots fields v:=by
 refine⟨h.sound v hv,fun hm=>?_⟩;induction hm with
 |root q q1 q2=>exact h.root _ q q1 (by have:=h.len;simp only at this⊢;omega)
 | @field u x hu q q1 q2 ih=>
   have hun:u<n:=by
    cases hu with
    |root _ a b=>omega
    |field _ _ a b=>omega
   rcases h.clo u hun (ih hun)with r|r
   ·cases r
   ·exact r _ q q1 (by have:=h.len;simp only at this⊢;omega)
open Classical in
theorem MetJ.all{n:Nat}{roots:List Int}{fields:Nat→List Int}{us:List Bool}(h:MetJ n roots fields (us,[])):(!decide (false∈us))=decide (∀v,v<n→Met n roots fields v):=by
 have hl:us.length=n:=h.len
 by_cases hf:false∈us
 ·rw[decide_eq_true hf,decide_eq_false]
  ·rfl
  ·intro ha;obtain⟨k,hk,he⟩:=List.mem_iff_getElem.1 hf;have:=(h.fin k (by omega)).2 (ha k (by omega));rw[List.getD_eq_getElem?_getD,List.getElem?_eq_getElem hk]at this;simp[he]at this
 ·rw[decide_eq_false hf,decide_eq_true]
  ·rfl
  ·intro v hv;refine(h.fin v hv).1 ?_;rw[List.getD_eq_getElem?_getD,List.getElem?_eq_getElem (by omega)];simp only[Option.getD_some];cases hb:us[v]with
   |true=>rfl
   |false=>exact absurd (hb▸List.getElem_mem (by omega)) hf
def IndexBPost(w:World)(l:List Bool)(e:Ending)(w':World):Prop:=∃r:Int,e=.returned (.int .i64 r)∧decide (0≤r)=decide (false∈l)∧w=w'
theorem indexB_any(w:World){g:Nat}{l:List Bool}(hr:Blk w g 4 ⟨l.map .bool⟩)(hn:l.length≤1000000):
 Calls Tryz.prog 152 #[.slice (some ⟨g,0,none⟩) l.length l.length,.bool false] w (IndexBPost w l):=by
 have HR:=eh hr;have lg:=hr.lt;clear hr;go_enter Tryz.func152,Tryz.ntmps152;go_wp2;go_loop [8] (fun i=>∃k:Nat,k≤l.length∧i=.int .i64 k∧Hid (∀j,j<k→l.getD j true=true)) (fun i=>l.length-(intOf i).toNat)
 case atStart=>exact⟨0,Nat.zero_le _,rfl,eh fun j hj=>by omega⟩
 case round=>
  obtain⟨k,hk,rfl,Hno⟩:=hrel
  by_cases hlt:k<l.length
  ·have c1:=bools_cell HR.out hlt;have k0:(0:Int)≤k:=by omega
   have k1:(k:Int)<l.length:=by omega
   have Hlt:=eh hlt;cases hb:l.getD k true with
   |false=>
    rw[hb]at c1;have Hin:=eh (show decide ((0:Int)≤k)=decide (false∈l) by
     rw[decide_eq_true k0,decide_eq_true];rw[List.getD_eq_getElem?_getD,List.getElem?_eq_getElem hlt]at hb;exact(show l[k]=false from hb)▸List.getElem_mem hlt)
    clear hb;go_wp2;go_ret;exact⟨k,rfl,Hin.out,rfl⟩
   |true=>
    rw[hb]at c1;have Hno2:=eh (show∀j,j<k+1→l.getD j true=true from fun j hj=>by
     by_cases h:j=k
     ·subst h;exact hb
     ·exact Hno.out j (by omega))
    clear hb;go_wp2;go_round
    case rel=>exact⟨k+1,by omega,by go_num,Hno2⟩
    case measure=>simp[intOf];omega
  ·have e:k=l.length:=by omega
   have Hin:=eh (show decide (0≤(-1:Int))=decide (false∈l) by
    rw[decide_eq_false (by omega),decide_eq_false];intro hx;obtain⟨j,hj,he⟩:=List.mem_iff_getElem.1 hx;have:=Hno.out j (by omega);rw[List.getD_eq_getElem?_getD,List.getElem?_eq_getElem hj]at this;simp[he]at this)
   clear e;go_wp2;go_ret;exact⟨-1,rfl,Hin.out,rfl⟩
theorem containsB_any(w:World){g:Nat}{l:List Bool}(hr:Blk w g 4 ⟨l.map .bool⟩)(hn:l.length≤1000000):
 Calls Tryz.prog 121 #[.slice (some ⟨g,0,none⟩) l.length l.length,.bool false] w fun e w'=>e=.returned (.bool (decide (false∈l)))∧w=w':=by
 have Hx:=eh (indexB_any w hr hn);clear hr;go_enter Tryz.func121,Tryz.ntmps121;go_wp2_with fail;refine Hx.out.mono ?_;rintro e w' ⟨r,rfl,hr,rfl⟩;have Hr:=eh hr;clear hr;go_wp2;go_ret;exact⟨uV Hr.out,rfl⟩
inductive Chn(f:Fn):Nat→List Int→Prop
 |top {j:Nat} (h:j<f.states.length) (hu:(stAt f j).up<0):Chn f j ((stAt f j).locals++(stAt f j).stack)
 |on {j u:Nat} {r:List Int} (h:j<f.states.length) (hu:(stAt f j).up=u) (hlt:u<j) (hr:Chn f u r):Chn f j ((stAt f j).locals++(stAt f j).stack++r)
structure StBnd(s:Ste):Prop where
 n:s.locals.length≤1000000∧s.stack.length≤1000000∧s.virts.length≤1000000
 lo:(∀x∈s.locals,-9223372036854775808≤x)∧∀x∈s.stack,-9223372036854775808≤x
 v:∀k,k<s.virts.length→(s.virts.getD k default).fields.length≤1000000∧∀x∈(s.virts.getD k default).fields,-9223372036854775808≤x
abbrev vfld(s:Ste)(v:Nat):List Int:=(s.virts.getD v default).fields
def JustOk(f:Fn)(i:Nat)(roots:List Int):Prop:=∀v,v<(stAt f i).virts.length→Met (stAt f i).virts.length roots (vfld (stAt f i)) v
def JustPost(w:World)(b:Bool)(e:Ending)(w':World):Prop:=e=.returned (.bool b)∧Below w.heap.size w w'
open Classical in
theorem just_any{w:World}{S:Nat→Prop}{gc gv:Nat}{p:Prg}{vs:List Vs}{f:Fn}{bv qv tv lv dv:Value}(h:Chk w S gc gv p vs f bv qv tv lv dv){i:Nat}{roots:List Int}(hc:Chn f i roots)(hb:∀j,StBnd (stAt f j)):
 Calls Tryz.prog 88 #[.pointer (some ⟨gc,0,none⟩),.int .i64 i] w (JustPost w (decide (JustOk f i roots))):=by
 have hi:i<f.states.length:=by cases hc<;>assumption
 obtain⟨Ac,cc,Am,cm,An,cn,Ab,cb,As,cs,hC⟩:=h;have d7:w.cell? ⟨gc,7,none⟩=some (.slice As f.states.length cs):=hC.blk.cell 7;have lC:=hC.blk.lt;obtain⟨bn,on_,A1,c1,A2,c2,A3,c3,hA,hSn,v0,v1,v2,v3,v4,v5,hr1,hr2,hr3⟩:=rd_ste hC.fn.states hi;subst hA;have lbn:=(hC.lt bn hSn).1;have i1:(i:Int)<f.states.length:=by omega
 have hvn:=(hb i).n.2.2;have HP:=eh (fun w' us (h0:MetJ (stAt f i).virts.length roots (vfld (stAt f i)) (us,[])) (h2:Below w.heap.size w w')=>(show JustPost w (decide (JustOk f i roots)) (.returned (.bool (!decide (false∈us)))) w' from⟨by rw[h0.all];exact congrArg _ (congrArg _ (decide_eq_decide.2 Iff.rfl)),h2⟩));generalize JustPost w (decide (JustOk f i roots))=Post at*;have hm2:=fun W=>run_make_row' (P:=Tryz.prog) 98 4 (.bool false) 1 Tryz.underlying98 infoBoolV rfl .i64 .i64 (stAt f i).virts.length (by omega) (by omega) W
 rw[made_rep]at hm2;have HC:=eh hC;have HB:=eh hb;have HBi:=eh (hb i);have HV:=eh hr3;have HJ:=eh (MetJ.start (stAt f i).virts.length roots (vfld (stAt f i)));have hS:=fun b q=>(hC.lt b q).1
 have HS:=eh hS;clear hC hb hr3 hr1 hr2 v0 v1 v2 v3 v4 hS;unfold stAt at hm2 hvn HP HBi HV HJ;generalize f.states.getD i default=s at*;go_enter Tryz.func88,Tryz.ntmps88;go_upto_region 5 with(fail);have m0:MetAt (((w.alloc (.cells (Array.replicate s.virts.length (.bool false)) 4)).alloc (.cells #[.slice (some ⟨w.heap.size,0,none⟩) s.virts.length s.virts.length] 98)).alloc (.cells #[.slice none 0 0] 38)) (w.heap.size+3) w.heap.size (w.heap.size+1) w.heap.size (w.heap.size+2) none 0 (List.replicate s.virts.length false) []:=by
  refine⟨?_,?_,?_,⟨rfl,.inl ⟨rfl,rfl⟩⟩,?_⟩
  ·have:=(Blk.newAt (w:=w.alloc (.cells (Array.replicate s.virts.length (.bool false)) 4)) (g:=w.heap.size+1) (by simp) 98 #[.slice (some ⟨w.heap.size,0,none⟩) s.virts.length s.virts.length]).alloc (.cells #[.slice none 0 0] 38);simpa using this
  ·rw[show(⟨(List.replicate s.virts.length false).map Value.bool⟩:Array Value)=Array.replicate s.virts.length (.bool false) by rw[←made_bools,made_rep]];exact((Blk.new w 4 (Array.replicate s.virts.length (.bool false))).alloc _).alloc _
  ·exact Blk.newAt (by simp) _ _
  ·simp<;>omega
 have hb0:Below w.heap.size w (((w.alloc (.cells (Array.replicate s.virts.length (.bool false)) 4)).alloc (.cells #[.slice (some ⟨w.heap.size,0,none⟩) s.virts.length s.virts.length] 98)).alloc (.cells #[.slice none 0 0] 38)):=(((Below.refl _ _).alloc (Nat.le_refl _) _).alloc (by simp) _).alloc (by simp;omega) _;have hW0:MetW (List.replicate s.virts.length false,[]):=⟨by simp,fun y hy=>by cases hy⟩;clear hm2;generalize hW1:((w.alloc (.cells (Array.replicate s.virts.length (.bool false)) 4)).alloc (.cells #[.slice (some ⟨w.heap.size,0,none⟩) s.virts.length s.virts.length] 98)).alloc (.cells #[.slice none 0 0] 38)=w1 at*;clear hW1;obtain⟨T,hT⟩:∃T,T=metL (List.replicate s.virts.length false,[]) roots:=⟨_,rfl⟩;rw[←hT]at HJ;go_wp2;go_loopw [9] (fun iv wr=>∃(kv:Int) (A:Option Addr) (c:Nat) (us:List Bool) (wk:List Int),iv=.int .i64 kv∧MetAt wr (w.heap.size+3) w.heap.size (w.heap.size+1) w.heap.size (w.heap.size+2) A c us wk∧Below w.heap.size w wr∧Hid (MetW (us,wk)∧us.length=s.virts.length)∧Hid ((∃j r,kv=(j:Nat)∧Chn f j r∧metL (us,wk) r=T)∨(kv<0∧(us,wk)=T))) (fun iv _=>(intOf iv+1).toNat)
 case atStart=>exact⟨i,none,0,_,_,rfl,m0,hb0,eh ⟨hW0,by simp⟩,eh (.inl ⟨i,roots,rfl,hc,hT.symm⟩)⟩
 case round=>
  clear m0 hb0 hW0 hT;obtain⟨kv,A,c,us,wk,rfl,hM,hB,HW,HE⟩:=hrel;rcases HE.out with⟨j,r,rfl,hch,he⟩|⟨hk,he⟩
  ·obtain⟨hjl,r2,rfl,hnx⟩:j<f.states.length∧∃r2,r=(stAt f j).locals++(stAt f j).stack++r2∧(((stAt f j).up<0∧r2=[])∨∃u:Nat,(stAt f j).up=u∧u<j∧Chn f u r2):=by
    cases hch with
    |top h1 h2=>exact⟨h1,[],by simp,.inl ⟨h2,rfl⟩⟩
    |on h1 h2 h3 h4=>exact⟨h1,_,rfl,.inr ⟨_,h2,h3,h4⟩⟩
   have hBj:=HB.out j;obtain⟨bn,on_,A1,c1,A2,c2,A3',c3',hA,hSn,v0,v1,v2,v3,v4,v5,q1,q2,-⟩:=rd_ste (HC.out.fn.states.below hB HS.out) hjl;cases hA;have lbn:=Nat.lt_of_lt_of_le (HS.out bn hSn) hB.size;have bC:=HC.out.blk.below hB HC.out.blk.lt;have d7:wr.cell? ⟨gc,7,none⟩=some (.slice (some ⟨bn,on_,none⟩) f.states.length cs):=bC.cell 7;have lC:=bC.lt;have i1:(j:Int)<f.states.length:=by omega
   have k0:(0:Int)≤j:=by omega
   obtain⟨us2,wk2,e2⟩:∃a b,metL (us,wk) (stAt f j).locals=(a,b):=⟨_,_,rfl⟩;obtain⟨us3,wk3,e3⟩:∃a b,metL (us2,wk2) (stAt f j).stack=(a,b):=⟨_,_,rfl⟩;have HW2:=eh (show MetW (us2,wk2)∧us2.length=s.virts.length by
    have h1:=HW.out.1.all (stAt f j).locals;have h2:=metL_len (stAt f j).locals (us,wk);rw[e2]at h1 h2;exact⟨h1,h2.trans HW.out.2⟩)
   have HW3:=eh (show MetW (us3,wk3)∧us3.length=s.virts.length by
    have h1:=HW2.out.1.all (stAt f j).stack;have h2:=metL_len (stAt f j).stack (us2,wk2);rw[e3]at h1 h2;exact⟨h1,h2.trans HW2.out.2⟩)
   have HE3:=eh (show metL (us3,wk3) r2=T by rw[←e3,←e2,←metL_app,←metL_app,←List.append_assoc];exact he);have M1:=eh (met_any hM HW.out.1 (by have:=HW.out.2;omega) A1 c1 (stAt f j).locals (q1.more HS.out) hBj.lo.1 hBj.n.1);rw[e2]at M1;have Q2:=eh q2;have M2:=eh (fun w' A' c' (h:MetAt w' (w.heap.size+3) w.heap.size (w.heap.size+1) w.heap.size (w.heap.size+2) A' c' us2 wk2) (hb:Below w.heap.size wr w')=>(by
    have:=met_any h HW2.out.1 (by have:=HW2.out.2;omega) A2 c2 (stAt f j).stack ((q2.keep (Kept.of_below hb HS.out)).more HS.out) hBj.lo.2 hBj.n.2.1;rw[e3]at this;exact this:Calls Tryz.prog 120 #[.slice A2 (stAt f j).stack.length c2,.pointer (some ⟨w.heap.size+1,0,none⟩),.pointer (some ⟨w.heap.size+2,0,none⟩)] w' (MetPost w' (w.heap.size+3) w.heap.size (w.heap.size+1) w.heap.size (w.heap.size+2) (us3,wk3))))
   have HN:=eh hnx;clear hM q1 q2 e2 e3 he hnx hBj HE hch;unfold stAt at M1 M2 HN;generalize f.states.getD j default=sj at*;go_wp2_with fail;refine M1.out.mono ?_;rintro e w2 ⟨rfl,⟨A',c',hM2⟩,hB2⟩;have M2':=eh (M2.out w2 A' c' hM2 hB2);have lgc:=HC.out.blk.lt;have lb0:=HS.out bn hSn;have HD:=eh (fun W (hb:Below w.heap.size wr W)=>(⟨(hb.cell (p:=⟨gc,7,none⟩) lgc).trans d7,(hb.cell (p:=⟨bn,on_+j*6+2,none⟩) lb0).trans v2,(hb.cell (p:=⟨bn,on_+j*6+4,none⟩) lb0).trans v4,Nat.lt_of_lt_of_le lC hb.size,Nat.lt_of_lt_of_le lbn hb.size⟩:W.cell? ⟨gc,7,none⟩=some (.slice (some ⟨bn,on_,none⟩) f.states.length cs)∧W.cell? ⟨bn,on_+j*6+2,none⟩=some (.int .i64 sj.up)∧W.cell? ⟨bn,on_+j*6+4,none⟩=some (.slice A2 sj.stack.length c2)∧gc<W.heap.size∧bn<W.heap.size));obtain⟨z1,z2,z3,z4,z5⟩:=HD.out w2 hB2;have HH2:=eh hB2;clear hM2 M1 M2 Q2 d7 v0 v1 v2 v3 v4 v5 lC lbn lgc lb0 bC hB2;go_wp2_with fail;refine M2'.out.mono ?_;rintro e w3 ⟨rfl,⟨A'',c'',hM3⟩,hB3⟩;have hB3':=HH2.out.trans hB3;have hB4:=hB.trans hB3';clear z1 z2 z3 z4 z5 M2';obtain⟨z1,z2,z3,z4,z5⟩:=HD.out w3 hB3';have HM3:=eh hM3;have HB4:=eh hB4;have Hnext:=eh (show(∃(kv:Int) (A:Option Addr) (c:Nat) (us:List Bool) (wk:List Int),Value.int .i64 sj.up=.int .i64 kv∧MetAt w3 (w.heap.size+3) w.heap.size (w.heap.size+1) w.heap.size (w.heap.size+2) A c us wk∧Below w.heap.size w w3∧Hid (MetW (us,wk)∧us.length=s.virts.length)∧Hid ((∃j r,kv=(j:Nat)∧Chn f j r∧metL (us,wk) r=T)∨(kv<0∧(us,wk)=T)))∧(sj.up+1).toNat<((j:Int)+1).toNat from by
    refine⟨⟨sj.up,A'',c'',us3,wk3,rfl,hM3,hB4,HW3,eh ?_⟩,?_⟩
    ·rcases HN.out with⟨q,rfl⟩|⟨u,q,hu,hch⟩
     ·exact .inr ⟨q,HE3.out⟩
     ·exact .inl ⟨u,r2,q,hch,HE3.out⟩
    ·rcases HN.out with⟨q,rfl⟩|⟨u,q,hu,hch⟩<;>omega)
   clear hM3 hB3 hB3' hB4 hB;go_wp2;go_roundw
   case rel=>exact Hnext.out.1
   case measure=>exact Hnext.out.2
  ·have g1:decide ((0:Int)≤kv)=false:=by simp;omega
   rw[←he]at HJ;obtain⟨μ,hμ⟩:∃μ,μ=us.count false+wk.length:=⟨_,rfl⟩;have Hμ:=eh hμ;clear HE he hk hμ HB;go_wp2;go_loopg [10] (μ+1) (fun n _ wz=>∃(A:Option Addr) (c:Nat) (us:List Bool) (wk:List Int),MetAt wz (w.heap.size+3) w.heap.size (w.heap.size+1) w.heap.size (w.heap.size+2) A c us wk∧Below w.heap.size w wz∧Hid (MetJ s.virts.length roots (vfld s) (us,wk))∧Hid (us.count false+wk.length<n))
   case atStart=>exact⟨A,c,us,wk,hM,hB,HJ,eh (by rw[Hμ.out];exact Nat.lt_succ_self _)⟩
   case round=>
    clear hM hB HJ HW Hμ g1;obtain⟨A,c,us,wk,hM,hB,HJ,Hn⟩:=hrel
    by_cases hw0:wk=[]
    ·subst hw0;have hul:=HJ.out.len;have m0:=hM.met.at0;have lm:=hM.met.lt;have w0:=hM.wrk.at0;have lw:=hM.wrk.lt;have HR:=eh (HP.out wr us HJ.out hB);have Hx:=eh (containsB_any wr hM.row (by simp only at hul;omega));obtain⟨r,hr⟩:∃r,r=decide (false∈us):=⟨_,rfl⟩;rw[←hr]at Hx HR;clear hul hM hB HJ hr;go_wp2_with fail;refine Hx.out.mono ?_;rintro e w' ⟨rfl,rfl⟩;go_wp2;exact HR.out
    ·obtain⟨a,x,rfl⟩:∃a x,wk=a++[x]:=⟨wk.dropLast,wk.getLast hw0,(List.dropLast_concat_getLast hw0).symm⟩;have hx:=HJ.out.w.inn x (by simp);have hul:=HJ.out.len;have hfew:=HJ.out.w.few;simp only[List.length_append,List.length_singleton]at hx hul hfew;obtain⟨v,rfl⟩:∃v:Nat,x=v:=⟨x.toNat,by omega⟩;have hvl:v<s.virts.length:=by omega
     obtain⟨gs,rfl,hgs1,hgs2,hgs3,y0⟩:=own_at hM.own (k:=a.length) (by simp);rw[show(a++[(v:Int)]).getD a.length 0=v by simp[List.getD_eq_getElem?_getD]]at y0;have w0:=hM.wrk.at0;have lw:=hM.wrk.lt;have fz:=hM.wrk.frozen 0;rw[show(a++[(v:Int)]).length=a.length+1 by simp]at w0 hgs3;obtain⟨bx,ox,A4,c4,rfl,hSv,-,z1,q4⟩:=rd_vt (HV.out.below hB HS.out) hvl;have lbx:=HS.out bx hSv;have hlw:=hM.low;have Hul:=eh hul;have hal:a.length≤1000000:=by omega
     have hM2:MetAt (wr.setCell ⟨w.heap.size+2,0,none⟩ (.slice (some ⟨gs,0,none⟩) a.length c)) (w.heap.size+3) w.heap.size (w.heap.size+1) w.heap.size (w.heap.size+2) (some ⟨gs,0,none⟩) c us a:=by
      refine⟨hM.met.far (by simp) _,hM.row.far (by simp) _,by simpa using hM.wrk.set_ 0 (.slice (some ⟨gs,0,none⟩) a.length c),?_,by simpa using hlw⟩;have o1:=own_take (k:=a.length) hM.own (by simp) (fun h=>by cases h);have e1:(ints (a++[(v:Int)])).take a.length=ints a:=by simp[ints]
      rw[e1]at o1;exact uS o1 (uA _ ⟨w.heap.size+2,0,none⟩ _) (.inl (uF (g:=w.heap.size+2) (Nat.lt_succ_self _) o1))
     have hB2:=hB.setCell (p:=⟨w.heap.size+2,0,none⟩) (by simp) (.slice (some ⟨gs,0,none⟩) a.length c);have hstep:=HJ.out.step;have hcnt:=(metL_d (vfld s v) (us,a)).cnt;obtain⟨us2,wk2,e2⟩:∃u k,metL (us,a) (vfld s v)=(u,k):=⟨_,_,rfl⟩;have hWa:MetW (us,a):=⟨by show a.length+us.count false≤us.length;omega,fun y hy=>HJ.out.w.inn y (List.mem_append_left _ hy)⟩;have hVB:=HBi.out.v v hvl;have M1:=eh (met_any hM2 hWa (by rw[Hul.out];exact hvn) A4 c4 (vfld s v) ((q4.keep (Kept.grown (Kept.refl _ _) (uA wr ⟨w.heap.size+2,0,none⟩ (.slice (some ⟨gs,0,none⟩) a.length c)) (fun b q=>Nat.lt_of_lt_of_le (HS.out b q) hB.size) (fun b q e=>by have:=HS.out b q;simp at e;omega))).more HS.out) hVB.2 hVB.1);rw[e2]at M1 hstep hcnt;have HJ2:=eh hstep;have Hcnt:=eh (show us2.count false+wk2.length<us.count false+a.length+1 from by simp only at hcnt;omega);have Hn2:=eh (show us.count false+a.length+1<_ from by have:=Hn.out;simp only[List.length_append,List.length_singleton]at this;exact this);have HB2:=eh hB2;have z1':=(hB2.cell (p:=⟨bx,ox+v*2+1,none⟩) lbx);have k2:((a.length:Int)+1-1)=a.length:=by omega
     have i1:(v:Int)<s.virts.length:=by omega
     have lb2:=Nat.lt_of_lt_of_le lbx hB.size;unfold vfld at M1;clear hstep hcnt e2 hWa hVB q4 hM2 hM hul hfew hx hlw Hn HJ hw0;go_upto_region 13 with(fail);generalize wr.setCell ⟨w.heap.size+2,0,none⟩ (.slice (some ⟨gs,0,none⟩) a.length c)=w2 at*;have z2:w2.cell? ⟨bx,ox+v*2+1,none⟩=some (.slice A4 (s.virts.getD v default).fields.length c4):=by rw[HB2.out.cell (p:=⟨bx,ox+v*2+1,none⟩) lbx,←hB.cell (p:=⟨bx,ox+v*2+1,none⟩) lbx];exact z1
     have lb3:=Nat.lt_of_lt_of_le lbx HB2.out.size;clear z1 hB y0 w0 lw fz z1' hB2 lb2;generalize s.virts.getD v default=sv at*;go_wp2_with fail;refine M1.out.mono ?_;rintro e w3 ⟨rfl,⟨A',c',hM3⟩,hB3⟩;have hB4:=HB2.out.trans hB3;clear z2 M1 hB3;go_wp2;go_roundg (us.count false+a.length+1)
     case measure=>exact Hn2.out
     case rel=>exact⟨A',c',us2,wk2,hM3,hB4,HJ2,Hcnt⟩
section
variable {w w':World} {S:Nat→Prop} {gm gv gx:Nat} {cs:Array Value}
def NoNum(cs:Array Value):Prop:=∀k,3≤k→∀kd v,cs[k]? ≠some (.int kd v)
theorem stc_nonum(s:Ste)(A1 A2 A3:Option Addr)(c1 c2 c3:Nat):NoNum (stc s A1 A2 A3 c1 c2 c3):=by
 intro k hk kd v h;rcases k with _|_|_|_|_|_|k
 ·omega
 ·omega
 ·omega
 ·cases h
 ·cases h
 ·cases h
 ·simp at h
theorem LvMem.own{mi d s:Int}{mm:Mth}{L:List (Option Nat)}{gs gw:Nat→Nat}{Ak:Option Addr}{ck ga cl:Nat}(h:LvMem w S gm gv mi d s mm L gs gw Ak ck ga cl)(hX:Blk w gx 47 cs)(hcs:NoNum cs)(hg:w.grownBy w' (some gx)):LvMem w' S gm gv mi d s mm L gs gw Ak ck ga cl:=by
 refine⟨h.blk.grown hg (fun e=>Blk.ne_ h.blk hX (by decide) (Option.some.inj e)),⟨h.code.1,fun hn=>?_⟩,⟨h.row.1.grown hg (fun e=>Blk.ne_ h.row.1 hX (by decide) (Option.some.inj e)),h.row.2⟩,fun i x e=>⟨?_,(h.sets i x e).2⟩,h.inj,h.ne,fun b hb=>⟨Nat.lt_of_lt_of_le (h.lt b hb).1 hg.size,(h.lt b hb).2⟩⟩
 ·obtain⟨b,off,e,hb,hc⟩:=h.code.2 hn;refine⟨b,off,e,hb,fun j u hj=>?_⟩;have hne:b≠gx:=by
   rintro rfl;obtain⟨x,l,hl⟩:∃x l,mm.code=x::l:=by
    cases hm:mm.code with
    |nil=>rw[hm]at hn;simp at hn
    |cons x l=>exact⟨x,l,rfl⟩
   have h3:=hc 3 (.int .i64 x.n) (by rw[hl];rfl);rw[hX.cell]at h3;exact hcs (off+3) (by omega) _ _ h3
  exact(World.cell?_of_block (hg.block b (h.lt b hb.1).1 (fun e=>hne (Option.some.inj e)))).trans (hc j u hj)
 ·have hs:=(h.sets i x e).1;obtain⟨a1,a2,A,c,a3,a4⟩:=hs;exact⟨a1,a2,A,c,a3.grown hg (fun e=>Blk.ne_ a3 hX (by decide) (Option.some.inj e)),fun hn=>⟨(a4 hn).1,(a4 hn).2.choose,(a4 hn).2.choose_spec.grown hg (fun e=>Blk.ne_ (a4 hn).2.choose_spec hX (by decide) (Option.some.inj e))⟩⟩
theorem LvAny.own{vs:List Vs}{i:Nat}{mm:Mth}(h:LvAny w S gm gv vs i mm)(hX:Blk w gx 47 cs)(hcs:NoNum cs)(hg:w.grownBy w' (some gx)):LvAny w' S gm gv vs i mm:=
 h.imp (fun h=>h.grown hg (fun e=>Blk.ne_ h hX (by decide) (Option.some.inj e))) fun⟨L,gs,gw,Ak,ck,ga,cl,hM,hO⟩=>⟨L,gs,gw,Ak,ck,ga,cl,hM.own hX hcs hg,hO⟩
theorem StsAt.own{gc gl B0:Nat}{p:Prg}{vs:List Vs}{f:Fn}{bv qv tv dv:Value}{F:Nat→Option Nat}(h:StsAt w S gc gv gl B0 p vs f bv qv tv dv F)(hX:Blk w gx 47 cs)(hcs:NoNum cs)(hB:B0≤gx)(hg:w.grownBy w' (some gx)):
 StsAt w' S gc gv gl B0 p vs f bv qv tv dv F:=by
 have hl:=h.low;refine⟨h.chk.kb (KB.of_grown hg ?_ ?_) hg.size,h.map.kept hg (fun e=>?_),⟨hl.1,hl.2.1,hl.2.2.1,hl.2.2.2.1,hl.2.2.2.2.1,Nat.le_trans hl.2.2.2.2.2.1 hg.size,hl.2.2.2.2.2.2⟩,h.lo2,h.tz.grown hg (by show 13≠gx;omega),fun j g' e=>?_,h.inj⟩
 ·rintro b (q|rfl|rfl)
  ·have:=(hl.2.2.2.2.2.2.2.2 b q).1;omega
  ·omega
  ·omega
 ·rintro b (q|rfl|rfl) e
  ·have:=(hl.2.2.2.2.2.2.2.2 b q).1;have:=Option.some.inj e;omega
  ·have:=Option.some.inj e;omega
  ·have:=Option.some.inj e;omega
 ·have:=Option.some.inj e;omega
 ·obtain⟨q1,q2,q3,Sj,q4,q5⟩:=h.ent j g' e;exact⟨q1,q2,Nat.lt_of_lt_of_le q3 hg.size,Sj,q4.own hX hcs hg,fun b q=>⟨(q5 b q).1,Nat.lt_of_lt_of_le (q5 b q).2.1 hg.size,(q5 b q).2.2⟩⟩
theorem Sts.own{gc gl B0:Nat}{p:Prg}{vs:List Vs}{f:Fn}{bv qv tv dv:Value}(h:Sts w S gc gv gl B0 p vs f bv qv tv dv)(hX:Blk w gx 47 cs)(hcs:NoNum cs)(hB:B0≤gx)(hg:w.grownBy w' (some gx)):
 Sts w' S gc gv gl B0 p vs f bv qv tv dv:=by
 obtain⟨F,h⟩:=h;exact⟨F,h.own hX hcs hB hg⟩
end
structure HdAt(p:Prg)(vs:List Vs)(s:Ste)(b:Int):Prop where
 m:0≤s.mth∧s.mth.toNat<p.methods.length
 pc:0≤s.pc∧s.pc.toNat<(mthAt p s.mth.toNat).code.length
 see:(stackF vs s.mth.toNat s.pc.toNat).2=true
 len:s.locals.length=nloc (mthAt p s.mth.toNat)
 sz:(stackF vs s.mth.toNat s.pc.toNat).1.size≤1000
 bel:0≤b→b<p.methods.length∧(callOk p s.mth.toNat s.pc.toNat b→(mthAt p b.toNat).pa.size≤(stackF vs s.mth.toNat s.pc.toNat).1.size)
inductive Hds(p:Prg)(vs:List Vs)(f:Fn):Nat→Int→Prop
 |top {j:Nat} {b:Int} (hj:j<f.states.length) (h:HdAt p vs (stAt f j) b) (hu:(stAt f j).up<0):Hds p vs f j b
 |on {j u:Nat} {b:Int} (hj:j<f.states.length) (h:HdAt p vs (stAt f j) b) (hu:(stAt f j).up=u) (hlt:u<j) (hr:Hds p vs f u (stAt f j).mth):Hds p vs f j b
theorem Hds.at{p:Prg}{vs:List Vs}{f:Fn}{j:Nat}{b:Int}(h:Hds p vs f j b):j<f.states.length∧HdAt p vs (stAt f j) b∧((stAt f j).up<0∨∃u:Nat,(stAt f j).up=u∧u<j∧Hds p vs f u (stAt f j).mth):=by
 cases h with
 |top h1 h2 h3=>exact⟨h1,h2,.inl h3⟩
 |on h1 h2 h3 h4 h5=>exact⟨h1,h2,.inr ⟨_,h3,h4,h5⟩⟩
inductive SlAll(p:Prg)(vs:List Vs)(f:Fn)(n:Nat):Nat→Int→Prop
 |top {j:Nat} {b:Int} (h:SlotsOk p vs f (stAt f j) (stAt f j).mth.toNat (stAt f j).pc.toNat b n) (hu:(stAt f j).up<0):SlAll p vs f n j b
 |on {j u:Nat} {b:Int} (h:SlotsOk p vs f (stAt f j) (stAt f j).mth.toNat (stAt f j).pc.toNat b n) (hu:(stAt f j).up=u) (hr:SlAll p vs f n u (stAt f j).mth):SlAll p vs f n j b
theorem SlAll.ok{p:Prg}{vs:List Vs}{f:Fn}{n j:Nat}{b:Int}(h:SlAll p vs f n j b):SlotsOk p vs f (stAt f j) (stAt f j).mth.toNat (stAt f j).pc.toNat b n:=by cases h<;>assumption
theorem SlAll.up{p:Prg}{vs:List Vs}{f:Fn}{n j u:Nat}{b:Int}(h:SlAll p vs f n j b)(hu:(stAt f j).up=u):SlAll p vs f n u (stAt f j).mth:=by
 cases h with
 |top h1 h2=>omega
 |on h1 h2 h3=>
  rename_i u2;have e:u2=u:=by omega
  exact e▸h3
theorem Fr.own{w w1 w2:World}{B0 gv gl gx:Nat}(h:Fr B0 gv gl w w1)(hg:w1.grownBy w2 (some gx))(hx:w.heap.size≤gx):Fr B0 gv gl w w2:=
 ⟨hg.os.trans h.os,hg.tape.trans h.tape,hg.output.trans h.output,Nat.le_trans h.size hg.size,fun b hb h1 h2 h3=>(hg.block b (Nat.lt_of_lt_of_le hb h.size) (fun e=>by have:=Option.some.inj e;omega)).trans (h.block b hb h1 h2 h3)⟩
def VtOk(p:Prg)(f:Fn)(n:Nat)(v:Vt):Prop:=inB v.cls p.classes.length=true∧v.fields.length=(p.classes.getD v.cls.toNat ⟨#[]⟩).size∧∀k,k<v.fields.length→slotB f (v.fields.getD k 0) ((p.classes.getD v.cls.toNat ⟨#[]⟩).extract k (k+1)) n=true
def TopOk(p:Prg)(vs:List Vs)(f:Fn)(i:Nat)(roots:List Int):Prop:=SlAll p vs f (stAt f i).virts.length i (-1)∧JustOk f i roots∧∀k,k<(stAt f i).virts.length→VtOk p f (stAt f i).virts.length ((stAt f i).virts.getD k default)
open Classical in
theorem topmost_any{w:World}{S:Nat→Prop}{gc gv gl B0:Nat}{p:Prg}{vs:List Vs}{f:Fn}{bv qv tv dv:Value}(h:Sts w S gc gv gl B0 p vs f bv qv tv dv)(hp:PIn p vs){i:Nat}{roots:List Int}(hh:Hds p vs f i (-1))(hc:Chn f i roots)(hb:∀j,StBnd (stAt f j)):
 Calls Tryz.prog 53 #[.pointer (some ⟨gc,0,none⟩),.int .i64 i] w (AnsPost w S gc gv gl B0 p vs f bv qv tv dv (decide (TopOk p vs f i roots))):=by
 have hi:=hh.at.1;have HPt:=eh (fun w' (h0:TopOk p vs f i roots) (h1:Sts w' S gc gv gl B0 p vs f bv qv tv dv) (h2:Fr B0 gv gl w w')=>(show AnsPost w S gc gv gl B0 p vs f bv qv tv dv (decide (TopOk p vs f i roots)) (.returned (.bool true)) w' from⟨by rw[decide_eq_true h0],h1,h2⟩));have HPf:=eh (fun w' (h0:¬TopOk p vs f i roots) (h1:Sts w' S gc gv gl B0 p vs f bv qv tv dv) (h2:Fr B0 gv gl w w')=>(show AnsPost w S gc gv gl B0 p vs f bv qv tv dv (decide (TopOk p vs f i roots)) (.returned (.bool false)) w' from⟨by rw[decide_eq_false h0],h1,h2⟩));generalize AnsPost w S gc gv gl B0 p vs f bv qv tv dv (decide (TopOk p vs f i roots))=Post at*;have HPi:=eh hp;have HB:=eh hb;have HC:=eh hc;obtain⟨F,hSt⟩:=id h;obtain⟨Ac,cc,Am,cm,An,cn,Ab,cb,As,cs,hC⟩:=hSt.chk;have d7:w.cell? ⟨gc,7,none⟩=some (.slice As f.states.length cs):=hC.blk.cell 7;have lC:=hC.blk.lt;obtain⟨bn,on_,A1,c1,A2,c2,A3,c3,hA,hSn,v0,v1,v2,v3,v4,v5,q1,q2,q3⟩:=rd_ste hC.fn.states hi;subst hA;have lbn:=(hC.lt bn hSn).1;have i1:(i:Int)<f.states.length:=by omega
 have hlow:=hSt.low;have hSlt:=fun b q=>(hC.lt b q).1
 have HSl:=eh hSlt;have HSb:=eh (fun b q=>(hlow.2.2.2.2.2.2.2.2 b q).1);obtain⟨s,hs⟩:∃s,s=stAt f i:=⟨_,rfl⟩;have Hs:=eh hs;have e0:f.states.getD i default=s:=hs.symm;rw[e0]at v0 v1 v2 v3 v4 v5 q1 q2 q3;have hb1:=(Below.refl w.heap.size w).alloc (Nat.le_refl _) (.cells (stc s A1 A2 A3 c1 c2 c3) 47);have bX:=Blk.new w 47 (stc s A1 A2 A3 c1 c2 c3);have h1:=h.below hb1;have hF1:Fr B0 gv gl w _:=Fr.of_below hb1 (Nat.le_refl _);have r1:=q1.keep (Kept.of_below hb1 hSlt);have r2:=q2.keep (Kept.of_below hb1 hSlt);have HH:=eh hh;have hlo:B0≤w.heap.size:=hlow.2.2.2.2.2.1;clear h hp hb hc hSt hC hs e0 q1 q2 q3 hSlt hlow hb1 hh;go_enter Tryz.func53,Tryz.ntmps53;go_upto_region 2 with(fail);generalize hW1:w.alloc (.cells (stc s A1 A2 A3 c1 c2 c3) 47)=w1 at*;clear hW1 v0 v1 v2 v3 v4 v5 d7 lC lbn i1 hi;obtain⟨gx,hgx⟩:∃gx,gx=w.heap.size:=⟨_,rfl⟩;have hxB:B0≤gx:=by omega
 have hxw:w.heap.size≤gx:=by omega
 rw[←hgx]at bX⊢;clear hgx hlo;have x5:w1.cell? ⟨gx,5,none⟩=some (.slice A3 s.virts.length c3):=bX.cell 5;have lX:=bX.lt;have HX:=eh bX;clear bX;go_upto_region 4 with(fail);clear x5 lX;have H1:=eh h1;have HF1:=eh hF1;have R1:=eh r1;have R2:=eh r2;clear h1 hF1 r1 r2;go_loopg [7] (i+1) (fun k bw wr=>∃(j:Nat) (b:Int) (A1 A2 A3:Option Addr) (c1 c2 c3:Nat),j<k∧bw=.int .i64 b∧Hid (Blk wr gx 47 (stc (stAt f j) A1 A2 A3 c1 c2 c3))∧Hid (RdS wr S 1 A1 (stAt f j).locals.length (ints (stAt f j).locals))∧Hid (RdS wr S 1 A2 (stAt f j).stack.length (ints (stAt f j).stack))∧Hid (Hds p vs f j b)∧Hid (SlAll p vs f s.virts.length i (-1)↔SlAll p vs f s.virts.length j b)∧Hid (Sts wr S gc gv gl B0 p vs f bv qv tv dv)∧Hid (Fr B0 gv gl w wr))
 case atStart=>exact⟨i,-1,A1,A2,A3,c1,c2,c3,Nat.lt_succ_self _,rfl,Hs.out▸HX,Hs.out▸R1,Hs.out▸R2,HH,eh Iff.rfl,H1,HF1⟩
 case round=>
  clear HX R1 R2 HH H1 HF1;obtain⟨j,b,A1,A2,A3,c1,c2,c3,hjk,rfl,HX,R1,R2,HH,HE,HS,HF⟩:=hrel;obtain⟨hj,hd,hnx⟩:=HH.out.at;have hsl:SlIn wr S p vs f (stAt f j) A1 A2 A3 (stAt f j).mth.toNat (stAt f j).pc.toNat b:=⟨by have:=hd.m.1;omega,by have:=hd.pc.1;omega,hd.m.2,hd.pc.2,hd.see,hd.len,R1.out,R2.out,(HB.out j).lo,⟨(HB.out j).n.2.1,hd.sz⟩,hd.bel⟩;have Hsl:=eh (slots_any HS.out HPi.out hsl c1 c2 c3 s.virts.length);obtain⟨r,hr⟩:∃r,r=decide (SlotsOk p vs f (stAt f j) (stAt f j).mth.toNat (stAt f j).pc.toNat b s.virts.length):=⟨_,rfl⟩;rw[←hr]at Hsl;have Hr:=eh hr;have Hnx:=eh hnx;have Hsl2:=eh (show¬r=true→¬TopOk p vs f i roots from fun h ht=>h (by rw[hr,decide_eq_true];exact(HE.out.1 (Hs.out▸ht.1)).ok));obtain⟨sj,hsj⟩:∃sj,sj=stAt f j:=⟨_,rfl⟩;rw[←hsj]at Hsl HX;have Hsj:=eh hsj;have hS0:=HS.out;obtain⟨F0,hSt0⟩:=hS0;have ne1:gx≠gv∧gx≠gl:=by have:=hSt0.low;omega
  clear hsl hr hnx hd R1 R2 hj hsj hSt0;have x0:=HX.out.at0;have x1:=HX.out.at1;have x2:=HX.out.at2;have x3:=HX.out.at3;have x4:wr.cell? ⟨gx,4,none⟩=some (.slice A2 sj.stack.length c2):=HX.out.cell 4;have x5:wr.cell? ⟨gx,5,none⟩=some (.slice A3 sj.virts.length c3):=HX.out.cell 5;have lX:=HX.out.lt;go_wp2_with fail;refine Hsl.out.mono ?_;rintro e w2 ⟨rfl,hs2,hf2⟩;have X2:=HX.out.fr hf2 (by decide) ne1.1 ne1.2;have HF2:=eh (HF.out.trans hf2);have HS2:=eh hs2;have HX2:=eh X2;have y2:=X2.at2;have l2:=X2.lt;clear x0 x1 x2 x3 x4 x5 lX Hsl hf2 hs2 HX X2 HS HF;cases r with
  |false=>
   have HRs:=eh (HPf.out w2 (Hsl2.out (by simp)) HS2.out HF2.out);go_wp2;exact HRs.out
  |true=>
   by_cases hup:sj.up<0
   ·have HA:Hid (SlAll p vs f s.virts.length i (-1)):=eh (HE.out.2 (.top (of_decide_eq_true Hr.out.symm) (Hsj.out▸hup)));have g1:decide (sj.up<0)=true:=decide_eq_true hup;obtain⟨F2,hSt2⟩:=HS2.out;have Hj:=eh (just_any hSt2.chk HC.out HB.out);clear hSt2;obtain⟨r2,hr2⟩:∃r2,r2=decide (JustOk f i roots):=⟨_,rfl⟩;rw[←hr2]at Hj;have Hr2:=eh hr2;clear hr2;go_upto_region 8 with(fail);clear y2 g1 hup;go_wp2_with fail;refine Hj.out.mono ?_;rintro e w3 ⟨rfl,hb3⟩;have HS3:=eh (HS2.out.below hb3);have HF3:=eh (HF2.out.trans (Fr.of_below hb3 (Nat.le_refl _)));clear Hj hb3;cases r2 with
    |false=>
     have HRs:=eh (HPf.out w3 (fun h=>by have:=h.2.1;have e:=Hr2.out;rw[decide_eq_true this]at e;cases e) HS3.out HF3.out);go_wp2;exact HRs.out
    |true=>
     have HJO:Hid (JustOk f i roots):=eh (of_decide_eq_true Hr2.out.symm);obtain⟨F3,hSt3⟩:=HS3.out;obtain⟨Ac3,cc3,Am3,cm3,An3,cn3,Ab3,cb3,As3,cs3,hC3⟩:=hSt3.chk;have hi3:i<f.states.length:=by cases HC.out<;>assumption
     obtain⟨bn3,on3,B1,e1,B2,e2,B3,e3,hA3,hSn3,v0,v1,v2,v3,v4,v5,-,-,q3⟩:=rd_ste hC3.fn.states hi3;subst hA3;have d7:w3.cell? ⟨gc,7,none⟩=some (.slice (some ⟨bn3,on3,none⟩) f.states.length cs3):=hC3.blk.cell 7;have i3:(i:Int)<f.states.length:=by omega
     have e0:f.states.getD i default=s:=Hs.out.symm;rw[e0]at v5 q3;have lb3:=(hC3.lt bn3 hSn3).1;have lC3:=hC3.blk.lt;have Q3:=eh q3;clear v0 v1 v2 v3 v4 e0 q3 hSt3 hC3;go_upto_region 11 with(fail);clear v5 d7 lb3 lC3 i3;have HV0:Hid (∀k,k<0→VtOk p f s.virts.length (s.virts.getD k default)):=eh fun k hk=>by omega
     go_loopw [57] (fun iv wr=>∃k:Nat,k≤s.virts.length∧iv=.int .i64 k∧Hid (Below w3.heap.size w3 wr)∧Hid (∀q,q<k→VtOk p f s.virts.length (s.virts.getD q default))) (fun iv _=>s.virts.length-(intOf iv).toNat)
     case atStart=>exact⟨0,Nat.zero_le _,rfl,eh (Below.refl _ _),HV0⟩
     case round=>
      obtain⟨k,hk,rfl,Hb,HV⟩:=hrel
      by_cases hlt:k<s.virts.length
      ·have HSr:=eh (HS3.out.below Hb.out);have hSw:=fun b (q:S b)=>Nat.lt_of_lt_of_le (HSl.out b q) HF3.out.size
       obtain⟨bx,ox,D,d,hB3,hSv,z0,z1,q4⟩:=rd_vt (Q3.out.below Hb.out hSw) hlt;subst hB3;have hVB:=(HB.out i).v k (by rw[←Hs.out];exact hlt);rw[←Hs.out]at hVB;have HVk:=eh (fun w' (hn:¬VtOk p f s.virts.length (s.virts.getD k default)) (hb:Below w3.heap.size w3 w')=>HPf.out w' (fun h=>hn (by have h3:=h.2.2;rw[←Hs.out]at h3;exact h3 k hlt)) (HS3.out.below hb) (HF3.out.trans (Fr.of_below hb (Nat.le_refl _))));have HVs:=eh (fun(hv:VtOk p f s.virts.length (s.virts.getD k default))=>(show∀q,q<k+1→VtOk p f s.virts.length (s.virts.getD q default)from fun q hq=>by
        by_cases e:q=k
        ·subst e;exact hv
        ·exact HV.out q (by omega)))
       have lbx:=Nat.lt_of_lt_of_le (hSw bx hSv) Hb.out.size;have i1:(k:Int)<s.virts.length:=by omega
       have HSw:=eh hSw;obtain⟨Fr_,hStr⟩:=HSr.out;obtain⟨Ac,cc,Am,cm,An,cn,Ab,cb,As,cs,hC⟩:=hStr.chk;have HC1:=eh (show wr.cell? ⟨gc,1,none⟩=some (.slice Ac p.classes.length cc)from hC.blk.cell 1);have HRc:=eh hC.prg.cl;have HlC:=eh hC.blk.lt;clear hStr hC hSw hSv HSr;obtain⟨nv,hnv⟩:∃nv,nv=s.virts.length:=⟨_,rfl⟩;generalize s.virts.getD k default=sv at*;obtain⟨c,fl⟩:=sv;simp only at z0 z1 q4 hVB;have bV:=Blk.new wr 66 #[.int .i64 c,.slice D fl.length d];have hbv:=(Below.refl wr.heap.size wr).alloc (Nat.le_refl _) (.cells #[.int .i64 c,.slice D fl.length d] 66);have Hlt:=eh hlt;clear hlt;go_upto_region 13 with(fail);generalize wr.alloc (.cells #[.int .i64 c,.slice D fl.length d] 66)=w5 at*;obtain⟨gz,hgz⟩:∃gz,gz=wr.heap.size:=⟨_,rfl⟩;rw[←hgz]at bV⊢;have HB5:=eh (show Below w3.heap.size w3 w5 from Hb.out.trans (hbv.mono Hb.out.size));have d1:w5.cell? ⟨gc,1,none⟩=some (.slice Ac p.classes.length cc):=(hbv.cell (p:=⟨gc,1,none⟩) HlC.out).trans HC1.out;have lC:=Nat.lt_of_lt_of_le HlC.out hbv.size;have hR5:=HRc.out.keep (Kept.of_below hbv (fun b q=>Nat.lt_of_lt_of_le (HSw.out b q) Hb.out.size));have hD5:=q4.keep (Kept.of_below hbv (fun b q=>Nat.lt_of_lt_of_le (HSw.out b q) Hb.out.size));have HD5:=eh hD5;have x0:=bV.at0;have x1:=bV.at1;have lV:=bV.lt;have HbV:=eh bV;clear z0 z1 q4 hbv hgz HC1 HlC HRc hD5 bV lbx i1;cases hi:inB c p.classes.length with
       |false=>
        have Hi:=eh hi;clear hi;go_quiet ((go_at_call 41;exact Calls.quiet_of_same (uM Hi.out _)));rename Nat=>q
        have HRs:=eh (HVk.out (w5.drewN q) (fun h=>by have:=h.1;rw[show inB c p.classes.length=false from Hi.out]at this;cases this) (uC HB5.out q));go_wp2;exact HRs.out
       |true=>
        have Hi:=eh hi;have⟨c0,c1⟩:=uJ hi;obtain⟨ci,rfl⟩:∃ci:Nat,c=ci:=⟨c.toNat,by omega⟩;have hk5:ci<p.classes.length:=by omega
        obtain⟨bc,oc,hAc,hSc,y0⟩:=rds_str hR5 hk5;subst hAc;have lbc:=Nat.lt_of_lt_of_le (HSw.out bc hSc) HB5.out.size;have HVc:=eh (show VtOk p f s.virts.length ⟨(ci:Int),fl⟩↔(fl.length=(p.classes.getD ci ⟨#[]⟩).size∧∀k,k<fl.length→slotB f (fl.getD k 0) ((p.classes.getD ci ⟨#[]⟩).extract k (k+1)) s.virts.length=true)from⟨fun h=>by have h2:=h.2;simpa using h2,fun h=>⟨hi,by simpa using h⟩⟩);clear hR5 hi hSc;generalize p.classes.getD ci ⟨#[]⟩=ks at*
        by_cases hlen:fl.length=ks.size
        ·skip
         have g2:((fl.length:Int) != (ks.size:Int))=false:=by simp;omega
         have Hlen:=eh hlen;clear hlen;go_quiet ((go_at_call 41;exact Calls.quiet_of_same (uM Hi.out _)));rename Nat=>q
         have hbq:=uC (Below.refl w5.heap.size w5) q;have HB6:=eh (HB5.out.trans (hbq.mono HB5.out.size));have d1':=(hbq.cell (p:=⟨gc,1,none⟩) lC).trans d1;have x0':=(hbq.cell (p:=⟨gz,0,none⟩) lV).trans x0;have x1':=(hbq.cell (p:=⟨gz,1,none⟩) lV).trans x1;have y0':=(hbq.cell (p:=⟨bc,oc+ci,none⟩) lbc).trans y0;have lC':=Nat.lt_of_lt_of_le lC hbq.size;have lV':=Nat.lt_of_lt_of_le lV hbq.size;have lbc':=Nat.lt_of_lt_of_le lbc hbq.size;have HD6:=eh (HD5.out.keep (Kept.of_below hbq (fun b q=>Nat.lt_of_lt_of_le (HSw.out b q) HB5.out.size)));clear d1 x0 x1 y0 lC lV lbc hbq HD5 g2 HbV;generalize w5.drewN q=w6 at*;go_wp2;go_loopw [91] (fun iv wz=>∃j:Nat,j≤fl.length∧iv=.int .i64 j∧Hid (Below w6.heap.size w6 wz)∧Hid (∀q,q<j→slotB f (fl.getD q 0) (ks.extract q (q+1)) s.virts.length=true)) (fun iv _=>fl.length-(intOf iv).toNat)
         case atStart=>exact⟨0,Nat.zero_le _,rfl,eh (Below.refl _ _),eh (fun q hq=>by omega)⟩
         case round=>
          obtain⟨j,hj,rfl,Hbz,HA⟩:=hrel;have hHB:=HB6.out.trans (Hbz.out.mono HB6.out.size);have HHB:=eh hHB
          by_cases hjl:j<fl.length
          ·have j1:(j:Int)<fl.length:=by omega
           obtain⟨bd,od,hD,hSd,hcd⟩:=HD6.out.2 (by omega);have hv:w6.cell? ⟨bd,od+j,none⟩=some (.int .i64 (fl.getD j 0)):=hcd j _ (by simp[ints,hjl]);have lbd:=Nat.lt_of_lt_of_le (HSw.out bd hSd) hHB.size;have hvz:wr.cell? ⟨bd,od+j,none⟩=some (.int .i64 (fl.getD j 0)):=(Hbz.out.cell (p:=⟨bd,od+j,none⟩) (Nat.lt_of_lt_of_le (HSw.out bd hSd) HB6.out.size)).trans hv;have d1:=(Hbz.out.cell (p:=⟨gc,1,none⟩) lC').trans d1';have x0:=(Hbz.out.cell (p:=⟨gz,0,none⟩) lV').trans x0';have y0:=(Hbz.out.cell (p:=⟨bc,oc+ci,none⟩) lbc').trans y0';have lC:=Nat.lt_of_lt_of_le lC' Hbz.out.size;have lV:=Nat.lt_of_lt_of_le lV' Hbz.out.size;have lbc:=Nat.lt_of_lt_of_le lbc' Hbz.out.size;subst hD;have hxlo:=hVB.2 (fl.getD j 0) (by rw[List.getD_eq_getElem?_getD,List.getElem?_eq_getElem hjl];exact List.getElem_mem hjl);have Hs2:Hid (∀q,Calls Tryz.prog 89 #[.pointer (some ⟨gc,0,none⟩),.int .i64 (fl.getD j 0),.string (ks.extract j (j+1)),.int .i64 s.virts.length] (wr.drewN q) fun e w'=>e=.returned (.bool (slotB f (fl.getD j 0) (ks.extract j (j+1)) s.virts.length))∧w'=wr.drewN q):=eh fun q=>by
            obtain⟨F,h⟩:=HS3.out.below (uC hHB q);exact slot_any h.chk hxlo (ks.extract j (j+1)) s.virts.length
           have Hjl:=eh hjl;have hjks:(j:Int)+1≤ks.size:=by have:=Hlen.out;omega
           have hA2:=eh (fun(h:slotB f (fl.getD j 0) (ks.extract j (j+1)) s.virts.length=true)=>(show∀q,q<j+1→slotB f (fl.getD q 0) (ks.extract q (q+1)) s.virts.length=true from fun q hq=>by
            by_cases e:q=j
            ·subst e;exact h
            ·exact HA.out q (by omega)))
           have hNo:=eh (fun(h:slotB f (fl.getD j 0) (ks.extract j (j+1)) s.virts.length=false) (hv:VtOk p f s.virts.length ⟨(ci:Int),fl⟩)=>(show False from by have:=(HVc.out.1 hv).2 j hjl;rw[h]at this;cases this));generalize hxv:fl.getD j 0=xv at*;obtain⟨r,hr⟩:∃r,r=slotB f xv (ks.extract j (j+1)) s.virts.length:=⟨_,rfl⟩;rw[←hr]at Hs2;have Hr:=eh hr;clear hr hxv hv hcd hSd hxlo d1' x0' x1' y0' lC' lV' lbc' hHB;go_upto_region 18 with(fail);go_quiet ((go_at_call 89;with_reducible exact Calls.quiet_of_same (Hs2.out _)));rename Nat=>q
           have HBq:=eh (uC HHB.out q);have Hbz2:=eh (uC Hbz.out q);cases r with
           |false=>
            have HRs:=eh (HVk.out (wr.drewN q) (fun h=>hNo.out Hr.out.symm h) HBq.out);go_wp2;exact HRs.out
           |true=>
            have HA3:=eh (hA2.out Hr.out.symm);go_wp2;go_roundw
            case rel=>exact⟨j+1,Hjl.out,by go_num,Hbz2,HA3⟩
            case measure=>have:=Hjl.out;simp[intOf];omega
          ·have hge:¬(j:Int)<fl.length:=by omega
           have HV2:=eh (HVs.out (HVc.out.2 ⟨Hlen.out,fun q hq=>HA.out q (by omega)⟩));have hk6:(k:Int)+1≤1000000:=by
            have h1:=(HB.out i).n.2.2;rw[←Hs.out]at h1;have h2:=Hlt.out;omega
           clear hjl hHB;go_wp2;go_roundw
           case rel=>exact⟨k+1,Hlt.out,by go_num,HHB,HV2⟩
           case measure=>have:=Hlt.out;simp[intOf];omega
        ·have g2:((fl.length:Int) != (ks.size:Int))=true:=by simp;omega
         have Hlen:=eh hlen;clear hlen;go_quiet ((go_at_call 41;exact Calls.quiet_of_same (uM Hi.out _)));rename Nat=>q
         have HRs:=eh (HVk.out (w5.drewN q) (fun h=>Hlen.out (HVc.out.1 h).1) (uC HB5.out q));go_wp2;exact HRs.out
      ·have hT:TopOk p vs f i roots:=⟨Hs.out▸HA.out,HJO.out,fun q hq=>by rw[←Hs.out]at hq⊢;exact HV.out q (by omega)⟩;have HRs:=eh (HPt.out wr hT (HS3.out.below Hb.out) (HF3.out.trans (Fr.of_below Hb.out (Nat.le_refl _))));clear hT;go_wp2;exact HRs.out
   ·obtain⟨u,hu,huj,hhu⟩:=Hnx.out.resolve_left (Hsj.out▸hup);rw[←Hsj.out]at hu hhu;have HE2:=eh (show SlAll p vs f s.virts.length i (-1)↔SlAll p vs f s.virts.length u sj.mth from HE.out.trans ⟨fun h=>by have:=h.up (u:=u) (Hsj.out▸hu);rw[←Hsj.out]at this;exact this,fun h=>.on (of_decide_eq_true Hr.out.symm) (Hsj.out▸hu) (Hsj.out▸h)⟩);have g1:decide (sj.up<0)=false:=decide_eq_false hup;have Hhu:=eh hhu;clear hup hhu;rw[hu]at y2;obtain⟨F2,hSt2⟩:=HS2.out;obtain⟨Ac2,cc2,Am2,cm2,An2,cn2,Ab2,cb2,As2,cs2,hC2⟩:=hSt2.chk;obtain⟨bn2,on2,B1,e1,B2,e2,B3,e3,hA2,hSn2,v0,v1,v2,v3,v4,v5,q1,q2,-⟩:=rd_ste hC2.fn.states Hhu.out.at.1;subst hA2;have d7:w2.cell? ⟨gc,7,none⟩=some (.slice (some ⟨bn2,on2,none⟩) f.states.length cs2):=hC2.blk.cell 7;have i2:(u:Int)<f.states.length:=by have:=Hhu.out.at.1;omega
    have y0:=HX2.out.at0;have Q1:=eh q1;have Q2:=eh q2;have hbS:=hC2.lt;have HbS:=eh hbS;have g3:decide ((u:Int)<0)=false:=decide_eq_false (by omega);clear hSt2 hC2 q1 q2 hbS;obtain⟨su,hsu⟩:∃su,su=stAt f u:=⟨_,rfl⟩;have Hsu:=eh hsu;have e9:f.states.getD u default=su:=hsu.symm;rw[e9]at v0 v1 v2 v3 v4 v5 Q1 Q2;clear e9 hsu;have Hu:=eh hu;clear hu;go_upto_region 7 with(fail);refine uE (S:=fun W=>W.cell? ⟨gc,7,none⟩=some (.slice (some ⟨bn2,on2,none⟩) f.states.length cs2)∧W.cell? ⟨gx,0,none⟩=some (.int .i64 sj.mth)∧W.cell? ⟨gx,2,none⟩=some (.int .i64 u)∧W.cell? ⟨bn2,on2+u*6,none⟩=some (.int .i64 su.mth)∧W.cell? ⟨bn2,on2+u*6+1,none⟩=some (.int .i64 su.pc)∧W.cell? ⟨bn2,on2+u*6+2,none⟩=some (.int .i64 su.up)∧W.cell? ⟨bn2,on2+u*6+3,none⟩=some (.slice B1 su.locals.length e1)∧W.cell? ⟨bn2,on2+u*6+4,none⟩=some (.slice B2 su.stack.length e2)∧W.cell? ⟨bn2,on2+u*6+5,none⟩=some (.slice B3 su.virts.length e3)) (fun q=>decide (q≤11)) (by kernel_rfl) ⟨d7,y0,y2,v0,v1,v2,v3,v4,v5⟩ (fun HS=>?_)
    iterate 12 (refine uO rfl rfl HS (.inl ⟨rfl,fun W hW=>by obtain⟨h0,h1,h2,h3,h4,h5,h6,h7,h8⟩:=hW;go_simp;rfl⟩) ?_;simp only[pS])
    refine uP rfl rfl (fun K HJ=>?_);have y1:=HX2.out.at1;have y3:=HX2.out.at3;have y4:w2.cell? ⟨gx,4,none⟩=some (.slice A2 sj.stack.length c2):=HX2.out.cell 4;have y5:w2.cell? ⟨gx,5,none⟩=some (.slice A3 sj.virts.length c3):=HX2.out.cell 5;have f0:=HX2.out.frozen 0;have f1:=HX2.out.frozen 1;have f2:=HX2.out.frozen 2;have f3:=HX2.out.frozen 3;have f4:=HX2.out.frozen 4;have f5:=HX2.out.frozen 5;go_simp;have hX':Blk (set6 w2 gx (.int .i64 su.mth) (.int .i64 su.pc) (.int .i64 su.up) (.slice B1 su.locals.length e1) (.slice B2 su.stack.length e2) (.slice B3 su.virts.length e3)).drew gx 47 (stc su B1 B2 B3 e1 e2 e3):=HX2.out.set6.drew;have hgw:w2.grownBy (set6 w2 gx (.int .i64 su.mth) (.int .i64 su.pc) (.int .i64 su.up) (.slice B1 su.locals.length e1) (.slice B2 su.stack.length e2) (.slice B3 su.virts.length e3)).drew (some gx):=by
     unfold set6;exact((((((uA w2 ⟨gx,0,none⟩ _).trans (uA _ ⟨gx,1,none⟩ _)).trans (uA _ ⟨gx,2,none⟩ _)).trans (uA _ ⟨gx,3,none⟩ _)).trans (uA _ ⟨gx,4,none⟩ _)).trans (uA _ ⟨gx,5,none⟩ _)).trans (gDrew _ _)
    have hS3:=HS2.out.own HX2.out (stc_nonum _ _ _ _ _ _ _) hxB hgw;have hF3:=HF2.out.own hgw hxw;have hk3:Kept S w2 (set6 w2 gx (.int .i64 su.mth) (.int .i64 su.pc) (.int .i64 su.up) (.slice B1 su.locals.length e1) (.slice B2 su.stack.length e2) (.slice B3 su.virts.length e3)).drew:=Kept.grown (Kept.refl _ _) hgw (fun b q=>(HbS.out b q).1) (fun b q e=>by have:=HSb.out b q;have:=Option.some.inj e;omega);have hq1:=Q1.out.keep hk3;have hq2:=Q2.out.keep hk3;have Hrel:=eh (show _∧_∧_∧_∧_ from⟨hX',hq1,hq2,hS3,hF3⟩);clear hX' hgw hS3 hF3 hk3 hq1 hq2;unfold set6 at Hrel;refine HJ.out _ _ (fun h=>by cases h) ?_;clear HJ HS;simp only[pS];refine uD (by kernel_rfl) ?_ _;clear y0 y1 y2 y3 y4 y5 f0 f1 f2 f3 f4 f5 v0 v1 v2 v3 v4 v5 d7;go_wp2;go_roundg (u+1)
    case measure=>omega
    case rel=>exact⟨u,sj.mth,B1,B2,B3,e1,e2,e3,Nat.lt_succ_self _,rfl,eh (by rw[←Hsu.out];exact Hrel.out.1),eh (by rw[←Hsu.out];exact Hrel.out.2.1),eh (by rw[←Hsu.out];exact Hrel.out.2.2.1),Hhu,HE2,eh Hrel.out.2.2.2.1,eh Hrel.out.2.2.2.2⟩
def namF(f:Fn):Nat→Int→Bool→List Int
 |0,_,_=>[]
 |k+1,st,b=>if inB st f.states.length=true then(stAt f st.toNat).locals++(stAt f st.toNat).stack++(if b=true then(stAt f st.toNat).virts.flatMap (·.fields)else[])++(if st≤(stAt f st.toNat).up then[]else namF f k (stAt f st.toNat).up false)else[]
theorem namF_out{f:Fn}{st:Int}(h:inB st f.states.length=false)(k:Nat)(b:Bool):namF f k st b=[]:=by
 cases k with
 |zero=>rfl
 |succ k=>unfold namF;rw[h];rfl
theorem namF_fuel(f:Fn):∀(n:Nat) (st:Int) (b:Bool) (k:Nat),st.toNat=n→n<k→namF f k st b=namF f (n+1) st b:=by
 intro n;induction n using Nat.strongRecOn with
 |_ n ih=>
  intro st b k hn hk;cases hin:inB st f.states.length with
  |false=>rw[namF_out hin,namF_out hin]
  |true=>
   obtain⟨k,rfl⟩:∃j,k=j+1:=⟨k-1,by omega⟩;unfold namF;rw[hin,if_pos rfl,if_pos rfl]
   by_cases hu:st≤(stAt f st.toNat).up
   ·rw[if_pos hu,if_pos hu]
   ·rw[if_neg hu,if_neg hu];cases hi2:inB (stAt f st.toNat).up f.states.length with
    |false=>rw[namF_out hi2,namF_out hi2]
    |true=>
     have:=uJ hi2;rw[ih _ (by omega) _ false k rfl (by omega),ih _ (by omega) _ false n rfl (by omega)]
theorem namF_at{f:Fn}{st:Int}{b:Bool}(h:inB st f.states.length=true):namF f (st.toNat+1) st b=(stAt f st.toNat).locals++(stAt f st.toNat).stack++(if b=true then(stAt f st.toNat).virts.flatMap (·.fields)else[])++(if st≤(stAt f st.toNat).up then[]else namF f ((stAt f st.toNat).up.toNat+1) (stAt f st.toNat).up false):=by
 conv=>lhs;unfold namF
 rw[h,if_pos rfl]
 by_cases hu:st≤(stAt f st.toNat).up
 ·rw[if_pos hu,if_pos hu]
 ·rw[if_neg hu,if_neg hu];cases hi2:inB (stAt f st.toNat).up f.states.length with
  |false=>rw[namF_out hi2,namF_out hi2]
  |true=>
   have:=uJ hi2;have:=uJ h;rw[namF_fuel f _ _ false st.toNat rfl (by omega)]
def NamPost(w:World)(l:List Int)(e:Ending)(w':World):Prop:=∃A c,e=.returned (.slice A l.length c)∧w'.ownsRow w.heap.size 3 1 (.slice A l.length c) l.length (ints l)∧Below w.heap.size w w'
theorem fl_next(l:List Vt){n:Nat}(hn:n<l.length):(l.take (n+1)).flatMap (·.fields)=(l.take n).flatMap (·.fields)++(l.getD n default).fields:=by
 rw[List.take_succ_eq_append_getElem hn,List.flatMap_append,List.getD_eq_getElem?_getD,List.getElem?_eq_getElem hn];simp
theorem flen_le(l:List Vt)(h:∀k,k<l.length→(l.getD k default).fields.length≤1000000)(n:Nat)(hn:n≤l.length):((l.take n).flatMap (·.fields)).length≤n*1000000:=by
 induction n with
 |zero=>simp
 |succ n ih=>
  have h1:=ih (by omega);have h2:=h n (by omega);rw[List.take_succ_eq_append_getElem (by omega),List.flatMap_append,List.length_append];rw[List.getD_eq_getElem?_getD,List.getElem?_eq_getElem (by omega)]at h2;simp only[List.flatMap_cons,List.flatMap_nil,List.append_nil];simp only[Option.getD_some]at h2;omega
def NamB(a:Nat)(up:Int)(n:Nat)(b:Bool):Prop:=a+(if 0≤up∧up<n then(up.toNat+1)*2000000 else 0)+(if b=true then 1000000000000 else 0)≤1008000000000
structure Fits(n m:Nat):Prop where
 a:n+m≤maxLen
 b:(n+m)*8≤140737488355328
theorem Fits.of{n m:Nat}(h:n+m≤1100000000000):Fits n m:=⟨by unfold maxLen;omega,by omega⟩
theorem NamB.start{st:Int}{n:Nat}(hn:n≤4000):NamB 0 st n true:=by unfold NamB;simp only[if_true];split<;>omega
theorem NamB.here{a k n:Nat}{b:Bool}(h:NamB a k n b)(hk:k<n):a+(k+1)*2000000+(if b=true then 1000000000000 else 0)≤1008000000000:=by
 unfold NamB at h;rw[if_pos ⟨by omega,by omega⟩,Int.toNat_natCast]at h;exact h
theorem NamB.fit{a k n l1 l2:Nat}{b:Bool}(h:NamB a k n b)(hk:k<n)(h1:l1≤1000000)(h2:l2≤1000000):Fits a l1∧Fits (a+l1) l2:=by
 have:=h.here hk;exact⟨.of (by omega),.of (by omega)⟩
theorem NamB.fitV{a k n l1 l2 t m:Nat}(h:NamB a k n true)(hk:k<n)(h1:l1≤1000000)(h2:l2≤1000000)(ht:t≤1000000000000)(hm:m≤1000000):Fits (a+l1+l2+t) m:=by
 have:=h.here hk;simp only[if_true]at this;exact .of (by omega)
theorem NamB.next{a k n l1 l2 v:Nat}{b:Bool}{up:Int}(h:NamB a k n b)(hk:k<n)(h1:l1≤1000000)(h2:l2≤1000000)(hv:v≤if b=true then 1000000000000 else 0)(hu:¬(k:Int)≤up):NamB (a+l1+l2+v) up n false:=by
 have:=h.here hk;unfold NamB;rw[if_neg (by decide:¬false=true)]
 by_cases hr:0≤up∧up<n
 ·rw[if_pos hr];have h3:=Nat.mul_le_mul_right 2000000 (show up.toNat+1≤k by omega);omega
 ·rw[if_neg hr];omega
theorem own_ne_ty{w:World}{base gx:Nat}{e T:TypeId}{size n:Nat}{v:Value}{xs:List Value}{cs:Array Value}(h:w.ownsRow base e size v n xs)(hX:Blk w gx T cs)(hT:T≠e):v.ownBlock≠some gx:=by
 rcases h.2 with⟨rfl,-⟩|⟨g,cap,cur,rfl,-,hg,-⟩
 ·intro e;cases e
 ·intro e1;have :g=gx:=Option.some.inj e1;subst this;unfold Blk at hX;rw[hX]at hg;injection hg with hg
  injection hg with _ h2 _
  exact hT h2
theorem named_any{w:World}{S:Nat→Prop}(An Ab As:Option Addr)(cn cb cs:Nat)(f:Fn)(hst:RdL steShape w S As f.states)(hS:∀b,S b→b<w.heap.size)(hb:∀j,StBnd (stAt f j))(hn:f.states.length≤4000)(st:Int):
 Calls Tryz.prog 90 #[fv An Ab As cn cb cs f,.int .i64 st] w (NamPost w (namF f (st.toNat+1) st true)):=by
 obtain⟨ii,hi1,hi2,hi3,hi4⟩:=info_parts infoIntR;have Hi1:=eh hi1;have Hi2:=eh hi2;have Hi3:=eh hi3;have Hi4:=eh hi4;have HP:=eh (fun A c l w' (h0:namF f (st.toNat+1) st true=l) (h1:w'.ownsRow w.heap.size 3 1 (.slice A l.length c) l.length (ints l)) (h2:Below w.heap.size w w')=>(show NamPost w (namF f (st.toNat+1) st true) (.returned (.slice A l.length c)) w' from by rw[h0];exact⟨A,c,rfl,h1,h2⟩));generalize NamPost w (namF f (st.toNat+1) st true)=Post at*;have HB:=eh hb;have HSt:=eh hst;have HS:=eh hS;have bF:=Blk.new w 50 #[.int .i64 f.mth,.int .i64 f.entry,.slice An f.nodes.length cn,.slice Ab f.blocks.length cb,.slice As f.states.length cs];have hb1:=(Below.refl w.heap.size w).alloc (Nat.le_refl _) (.cells #[.int .i64 f.mth,.int .i64 f.entry,.slice An f.nodes.length cn,.slice Ab f.blocks.length cb,.slice As f.states.length cs] 50);have Hb1:=eh hb1;clear hi1 hi2 hi3 hi4 hb hst hS;go_enter Tryz.func90,Tryz.ntmps90;go_upto_region 1 with(fail);generalize w.alloc (.cells #[.int .i64 f.mth,.int .i64 f.entry,.slice An f.nodes.length cn,.slice Ab f.blocks.length cb,.slice As f.states.length cs] 50)=w1 at*;obtain⟨gF,hgF⟩:∃gF,gF=w.heap.size:=⟨_,rfl⟩;rw[←hgF]at bF⊢;have hz1:w.heap.size<w1.heap.size:=hgF▸bF.lt;have HbF:=eh bF;clear hgF bF;obtain⟨base,hbase⟩:∃base,base=w1.heap.size:=⟨_,rfl⟩;have Hbase:=eh hbase;clear hbase;go_wp2;go_loopw [1,5,6] (fun sv lv fv wr=>∃(s1:Int) (b1:Bool) (A1:Option Addr) (c1:Nat) (acc:List Int),sv=.int .i64 s1∧lv=.slice A1 acc.length c1∧fv=.bool b1∧wr.ownsRow base 3 1 (.slice A1 acc.length c1) acc.length (ints acc)∧Hid (Below w1.heap.size w1 wr)∧Hid (namF f (st.toNat+1) st true=acc++namF f (s1.toNat+1) s1 b1)∧Hid (NamB acc.length s1 f.states.length b1)) (fun sv _ _ _=>(intOf sv+1).toNat)
 case atStart=>exact⟨st,true,none,0,[],rfl,rfl,rfl,⟨rfl,.inl ⟨rfl,rfl⟩⟩,eh (Below.refl _ _),eh rfl,eh (NamB.start hn)⟩
 case round=>
  clear hb1;obtain⟨s1,b1,A1,c1,acc,rfl,rfl,rfl,hown,HW,HE,HL⟩:=hrel;have bF1:=HbF.out.below HW.out HbF.out.lt;have f4:wr.cell? ⟨gF,4,none⟩=some (.slice As f.states.length cs):=bF1.cell 4;have lF:=bF1.lt;have HWw:=eh (Hb1.out.trans (HW.out.mono (Nat.le_of_lt hz1)));cases hin:inB s1 f.states.length with
  |false=>
   have HR:=eh (HP.out A1 c1 acc wr (by rw[HE.out,namF_out hin,List.append_nil]) (own_base hown (by rw[Hbase.out];omega)) HWw.out)
   by_cases h0:0≤s1
   ·have h1:decide (s1<(f.states.length:Int))=false:=by unfold inB at hin;simp at hin⊢;omega
    have g0:decide ((0:Int)≤s1)=true:=by simpa using h0
    clear hin h0;go_wp2;exact HR.out
   ·have g0:decide ((0:Int)≤s1)=false:=by simpa using h0
    clear hin h0;go_wp2;exact HR.out
  |true=>
   have⟨q0,q1⟩:=uJ hin;obtain⟨k,rfl⟩:∃k:Nat,s1=k:=⟨s1.toNat,by omega⟩;have hk:k<f.states.length:=by omega
   have HE2:=eh (HE.out.trans (congrArg (acc++ ·) (namF_at hin)));obtain⟨bn,on_,D1,d1,D2,d2,D3,d3,hA,hSn,v0,v1,v2,v3,v4,v5,r1,r2,r3⟩:=rd_ste (HSt.out.below HWw.out HS.out) hk;subst hA;have lbn:=Nat.lt_of_lt_of_le (HS.out bn hSn) HWw.out.size;have i1:(k:Int)<f.states.length:=by omega
   have hBk:=HB.out k;have HF:=eh (show Fits acc.length (stAt f k).locals.length∧Fits (acc.length+(stAt f k).locals.length) (stAt f k).stack.length from HL.out.fit hk hBk.n.1 hBk.n.2.1);have HFv:=eh (fun(hb:b1=true) (j:Nat) (hj:j<(stAt f k).virts.length)=>(show Fits (acc.length+(stAt f k).locals.length+(stAt f k).stack.length+(((stAt f k).virts.take j).flatMap (·.fields)).length) ((stAt f k).virts.getD j default).fields.length from by
    subst hb;have h1:=flen_le (stAt f k).virts (fun q hq=>(hBk.v q hq).1) j (by omega);have h2:=Nat.mul_le_mul_right 1000000 (show j≤1000000 by have:=hBk.n.2.2;omega);exact HL.out.fitV hk hBk.n.1 hBk.n.2.1 (by omega) (hBk.v j hj).1))
   have HFn:=eh (fun(hu:¬(k:Int)≤(stAt f k).up)=>(show NamB (acc.length+(stAt f k).locals.length+(stAt f k).stack.length+(if b1=true then(stAt f k).virts.flatMap (·.fields)else[]).length) (stAt f k).up f.states.length false from HL.out.next hk hBk.n.1 hBk.n.2.1 (by
    cases b1
    ·simp
    ·have h1:=flen_le (stAt f k).virts (fun q hq=>(hBk.v q hq).1) _ (Nat.le_refl _);have h2:=Nat.mul_le_mul_right 1000000 hBk.n.2.2;rw[List.take_length]at h1;simp only[if_true];omega) hu))
   rw[Int.toNat_natCast]at HE2;obtain⟨hn1,hn2,hn3⟩:=hBk.n;have Hup:=eh (fun(u:Nat) (_:(stAt f k).up=u)=>HB.out u);unfold stAt at hn1 hn2 hn3 hBk HF HFv HFn;have R1:=eh r1;have R2:=eh r2;have R3:=eh r3;have HBk:=eh hBk;clear r1 r2 r3 hBk q0 q1 HE hin;unfold stAt at HE2 Hup;generalize f.states.getD k default=s at*;have bX:=Blk.new wr 47 (stc s D1 D2 D3 d1 d2 d3);have hbX:=(Below.refl wr.heap.size wr).alloc (Nat.le_refl _) (.cells (stc s D1 D2 D3 d1 d2 d3) 47);have hown2:=hown.alloc (.cells (stc s D1 D2 D3 d1 d2 d3) 47);have Hown:=eh hown;clear hown;go_upto_region 6 with(fail);obtain⟨gx,hgx⟩:∃gx,gx=wr.heap.size:=⟨_,rfl⟩;rw[←hgx]at bX⊢;generalize wr.alloc (.cells (stc s D1 D2 D3 d1 d2 d3) 47)=w2 at*;have HW2:=eh (HW.out.trans (hbX.mono HW.out.size));have hgB:base≤gx:=by rw[Hbase.out,hgx];exact HW.out.size
   have nX:(Value.slice A1 acc.length c1).ownBlock≠some gx:=fun e=>by have:=(Hown.out.lt gx e).2;omega
   have hbs:base≤w2.heap.size:=by have:=bX.lt;omega
   have HK:=eh (fun W (hW:Below w1.heap.size w1 W)=>(fun q hq=>((Hb1.out.trans (hW.mono (Nat.le_of_lt hz1))).cell (HS.out _ hq)).trans (HWw.out.cell (HS.out _ hq)).symm:Kept S wr W));have Hgx:=eh hgx;clear hgx v0 v1 v2 v3 v4 v5 f4 lF lbn i1 bF1;refine uE (S:=fun W=>W.cell? ⟨gx,3,none⟩=some (.slice D1 s.locals.length d1)∧W.cell? ⟨gx,4,none⟩=some (.slice D2 s.stack.length d2)) (fun _=>true) (by kernel_rfl) ⟨bX.at3,bX.cell 4⟩ (fun HS6=>?_)
   iterate 3 (refine uO rfl rfl HS6 (.inl ⟨rfl,fun W hW=>by obtain⟨h0,h1⟩:=hW;go_simp;rfl⟩) ?_;simp only[pS])
   refine uB 4 28 rfl HS6 (.inl ⟨rfl,fun W hW=>by obtain⟨h0,h1⟩:=hW;go_simp;rfl⟩) ?_;simp only[pS];refine uB 5 29 rfl HS6 (.inl ⟨rfl,fun W hW=>by obtain⟨h0,h1⟩:=hW;go_simp;rfl⟩) ?_;simp only[pS];refine uN 3 rfl (fun K HJ=>?_);refine step_append_rd rfl (.tmp 24) (.tmp 26) 38 rfl base 3 ii _ 8 Tryz.underlying38 Hi1.out Hi2.out Hi3.out Hi4.out rfl (.slice A1 acc.length c1) acc.length (ints acc) rfl (show w2.drew.ownsRow base 3 1 (.slice A1 acc.length c1) acc.length (ints acc)from uS hown2 (gDrew w2 (some gx)) (.inl nX)) w.heap.size D1 s.locals.length d1 (ints s.locals) rfl ((R1.out.keep (HK.out _ HW2.out.drew)).rd HS.out) (fun u hu=>ints_one hu) HF.out.1.a HF.out.1.b hbs ?_;intro A4 c4 w3 own3 hg3;have X3:=bX.drew.grown hg3 (fun e=>nX e.symm);have HB3:=eh (HW2.out.drew.grown hg3 HW2.out.size (fun j hj=>by have:=(hown2.lt j hj).1;have:=Hbase.out;omega));have n3:(Value.slice A4 (acc.length+s.locals.length) c4).ownBlock≠some gx:=own_ne_ty own3 X3 (by decide);refine HJ.out _ _ (fun _=>⟨X3.at3,X3.cell 4⟩) ?_;clear HJ HS6;have HS6:w3.cell? ⟨gx,3,none⟩=some (.slice D1 s.locals.length d1)∧w3.cell? ⟨gx,4,none⟩=some (.slice D2 s.stack.length d2):=⟨X3.at3,X3.cell 4⟩;simp only[pS];refine uP rfl rfl (fun K HJ=>?_);refine step_append_rd rfl (.tmp 27) (.tmp 29) 38 rfl base 3 ii _ 8 Tryz.underlying38 Hi1.out Hi2.out Hi3.out Hi4.out rfl (.slice A4 (acc.length+s.locals.length) c4) (acc.length+s.locals.length) (ints acc++ints s.locals) rfl own3 w.heap.size D2 s.stack.length d2 (ints s.stack) rfl ((R2.out.keep (HK.out _ HB3.out)).rd HS.out) (fun u hu=>ints_one hu) HF.out.2.a HF.out.2.b (Nat.le_trans hbs hg3.size) ?_;intro A5 c5 w4 own4 hg4;have X4:=X3.grown hg4 (fun e=>n3 e.symm);have HB4:=eh (HB3.out.grown hg4 HB3.out.size (fun j hj=>by have:=(own3.lt j hj).1;have:=Hbase.out;omega));refine HJ.out _ _ (fun _=>⟨X4.at3,X4.cell 4⟩) ?_;clear HJ HS6;have HS6:w4.cell? ⟨gx,3,none⟩=some (.slice D1 s.locals.length d1)∧w4.cell? ⟨gx,4,none⟩=some (.slice D2 s.stack.length d2):=⟨X4.at3,X4.cell 4⟩;simp only[pS];refine uO rfl rfl HS6 (.inl ⟨rfl,fun W hW=>by obtain⟨h0,h1⟩:=hW;go_simp;rfl⟩) ?_;simp only[pS];refine uD (by kernel_rfl) ?_ _;obtain⟨L,hL⟩:∃L,L=acc++s.locals++s.stack:=⟨_,rfl⟩;have eL:acc.length+s.locals.length+s.stack.length=L.length:=by rw[hL];simp;omega
   have own5:w4.ownsRow base 3 1 (.slice A5 L.length c5) L.length (ints L):=own_castS own4 eL (by rw[hL];simp[ints]);obtain⟨V,hV⟩:∃V,V=if b1=true then s.virts.flatMap (·.fields)else[]:=⟨_,rfl⟩
   have HE3:=eh (show namF f (st.toNat+1) st true=L++V++(if(k:Int)≤s.up then[]else namF f (s.up.toNat+1) s.up false) by rw[HE2.out,hL,hV];simp);have HFn2:=eh (fun(hu:¬(k:Int)≤s.up)=>(show NamB (L++V).length s.up f.states.length false from by rw[List.length_append,←eL,hV];exact HFn.out hu));have HFv2:=eh (fun(hb:b1=true) (j:Nat) (hj:j<s.virts.length)=>(show Fits (L++(s.virts.take j).flatMap (·.fields)).length (s.virts.getD j default).fields.length from by rw[List.length_append,←eL];exact HFv.out hb j hj));have HX4:=eh X4;have x2:=X4.at2;have x5:w4.cell? ⟨gx,5,none⟩=some (.slice D3 s.virts.length d3):=X4.cell 5;have lX:=X4.lt;rw[eL];clear HS6 own4 hL eL n3 nX own3 hg3 hg4 X3 X4 hown2 bX hbX HE2 HF HFv HFn;go_upto_if 31 with(fail);go_cut [5]from 9 to 43 (fun v wx=>∃(A:Option Addr) (c:Nat),v=.slice A (L++V).length c∧wx.ownsRow base 3 1 (.slice A (L++V).length c) (L++V).length (ints (L++V))∧Hid (Below w1.heap.size w1 wx)∧Hid (Blk wx gx 47 (stc s D1 D2 D3 d1 d2 d3)))
   case first=>
    cases b1 with
    |false=>
     have hV0:L++V=L:=by rw[hV];simp
     have HV0:=eh hV0;clear hV hV0;go_wp2;go_meet;rw[HV0.out];exact⟨A5,c5,rfl,own5,HB4,HX4⟩
    |true=>
     have hV1:V=s.virts.flatMap (·.fields):=by rw[hV];simp
     clear hV;have i0:(0:Int)≤s.virts.length:=by omega
     have HR3:=eh (R3.out.keep (HK.out _ HB4.out));go_wp2;clear x5 x2;go_loopw [35,5] (fun iv lv wz=>∃(j:Nat) (A:Option Addr) (c:Nat),j≤s.virts.length∧iv=.int .i64 j∧lv=.slice A (L++(s.virts.take j).flatMap (·.fields)).length c∧wz.ownsRow base 3 1 (.slice A (L++(s.virts.take j).flatMap (·.fields)).length c) (L++(s.virts.take j).flatMap (·.fields)).length (ints (L++(s.virts.take j).flatMap (·.fields)))∧Hid (Below w1.heap.size w1 wz)∧Hid (Blk wz gx 47 (stc s D1 D2 D3 d1 d2 d3))) (fun iv _ _=>s.virts.length-(intOf iv).toNat)
     case atStart=>exact⟨0,A5,c5,Nat.zero_le _,rfl,by simp,by simpa using own5,HB4,HX4⟩
     case round=>
      obtain⟨j,A,c,hj,rfl,rfl,own7,HB7,HX7⟩:=hrel
      by_cases hlt:j<s.virts.length
      ·obtain⟨bx,ox,D4,d4,hA,hSx,z0,z1,q4⟩:=rd_vt (R3.out.keep (HK.out _ HB7.out)) hlt;subst hA;have lbx:=Nat.lt_of_lt_of_le (HS.out bx hSx) (Hb1.out.trans (HB7.out.mono (Nat.le_of_lt hz1))).size;have i1:(j:Int)<s.virts.length:=by omega
       have hv1:=(HBk.out.v j hlt).1;have hnx:=eh (fl_next s.virts hlt);have hlj:=eh (HFv2.out (by first|rfl|trivial) j hlt);have Hjl:=eh hlt;have HL2:=eh (List.append_assoc L ((s.virts.take j).flatMap (·.fields)) (s.virts.getD j default).fields);rw[←hnx.out]at HL2;clear hlt;generalize s.virts.getD j default=sv at*;obtain⟨cl,fl⟩:=sv;simp only at z0 z1 q4 hv1 HL2 hlj;generalize L++(s.virts.take j).flatMap (·.fields)=Lj at*;have bV:=Blk.new wr 66 #[.int .i64 cl,.slice D4 fl.length d4];have hbv:=(Below.refl wr.heap.size wr).alloc (Nat.le_refl _) (.cells #[.int .i64 cl,.slice D4 fl.length d4] 66);have own8:=own7.alloc (.cells #[.int .i64 cl,.slice D4 fl.length d4] 66);have X8:=HX7.out.alloc (.cells #[.int .i64 cl,.slice D4 fl.length d4] 66);have hr4:=q4.keep (Kept.of_below hbv (fun b q=>Nat.lt_of_lt_of_le (HS.out b q) (Hb1.out.trans (HB7.out.mono (Nat.le_of_lt hz1))).size));have Hr4:=eh (hr4.rd HS.out);clear own7 q4 hr4;go_upto_region 11 with(fail);generalize wr.alloc (.cells #[.int .i64 cl,.slice D4 fl.length d4] 66)=w8 at*;have HB8:=eh (HB7.out.trans (hbv.mono HB7.out.size));have hw8:base≤w8.heap.size:=by rw[Hbase.out];exact HB8.out.size
       have x1:=bV.at1;have lV:=bV.lt;have HX8:=eh X8;clear z0 z1 hbv bV lbx X8;go_wp2_with (at_builtin
                                                                                             refine wpList_append_rd rfl (.tmp 39) (.tmp 41) 38 rfl base 3 ii _ 8 Tryz.underlying38 Hi1.out Hi2.out Hi3.out Hi4.out rfl (.slice A Lj.length c) Lj.length (ints Lj) rfl own8 w.heap.size D4 fl.length d4 (ints fl) rfl Hr4.out (fun u hu=>ints_one hu) hlj.out.a hlj.out.b hw8 ?_;intro A9 c9 w9 own9 hg9)
       have X9:=HX8.out.grown hg9 (fun e=>own_ne_ty own8 HX8.out (by decide) e.symm);have HB9:=eh (HB8.out.grown hg9 HB8.out.size (fun q hq=>by have:=(own8.lt q hq).1;have:=Hbase.out;omega));have eL:Lj.length+fl.length=(L++(s.virts.take (j+1)).flatMap (·.fields)).length:=by rw[←HL2.out];simp
       have own10:=own_castS own9 eL (show ints Lj++ints fl=ints (L++(s.virts.take (j+1)).flatMap (·.fields)) by rw[←HL2.out];simp[ints]);go_roundw
       case rel=>exact⟨j+1,A9,c9,Hjl.out,by go_num,by rw[eL],own10,HB9,eh X9⟩
       case measure=>have:=Hjl.out;simp[intOf];omega
      ·have e:j=s.virts.length:=by omega
       have eV:L++(s.virts.take j).flatMap (·.fields)=L++V:=by rw[e,List.take_length,hV1]
       rw[eV]at own7⊢;clear e eV;go_wp2;go_meet;exact⟨A,c,rfl,own7,HB7,HX7⟩
   case rest=>
    obtain⟨A,c,rfl,own6,HB6,HX6⟩:=hcut;have x2:=HX6.out.at2;have lX:=HX6.out.lt;generalize L++V=LV at*
    by_cases hu:(k:Int)≤s.up
    ·have HR:=eh (HP.out A c LV wc (by rw[HE3.out,if_pos hu,List.append_nil]) (own_base own6 (by rw[Hbase.out];omega)) (Hb1.out.trans (HB6.out.mono (Nat.le_of_lt hz1))));go_wp2;exact HR.out
    ·have HE4:=eh (show namF f (st.toNat+1) st true=LV++namF f (s.up.toNat+1) s.up false by rw[HE3.out,if_neg hu]);have HLu:=eh (HFn2.out hu);have Hu:=eh hu;clear hu;go_wp2;go_roundw
     case rel=>exact⟨s.up,false,A,c,LV,rfl,rfl,rfl,own6,HB6,HE4,HLu⟩
     case measure=>have:=Hu.out;simp[intOf];omega
end Go.Proofs.YtgbgbmdiomhfiaaGreatDoor