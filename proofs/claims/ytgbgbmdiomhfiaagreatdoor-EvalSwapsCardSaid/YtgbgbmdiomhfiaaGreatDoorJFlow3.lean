/-
 Flow1, Flow2, Flow3.
-/
import Derived.Sort.OwnSortedInts
import Derived.Test.YtgbgbmdiomhfiaaGreatDoorJVr5
import Derived.Test.YtgbgbmdiomhfiaaGreatDoorJPgEff3
import Derived.Test.YtgbgbmdiomhfiaaGreatDoorJSettlePure
set_option linter.unusedSimpArgs false
set_option linter.unusedVariables false
set_option maxHeartbeats 8000000
set_option maxRecDepth 100000
namespace Go.Proofs.YtgbgbmdiomhfiaaGreatDoor
open Go.RowKit Go.Maps
def MatPost(w:World)(ls:List (List Int))(e:Ending)(w':World):Prop:=
 ∃G hs,e=.returned (.slice (some ⟨G,0,none⟩) ls.length ls.length)∧Blk w' G 38 ⟨hdrs hs ls⟩∧OwnMat w' (G+1) 3 hs ls∧w.heap.size≤G∧Below w.heap.size w w'
structure ClR(g:List (List Int))(i:Nat)(acc:List Nat)(ls:List (List Nat))(lv:List Int):Prop where
 l1:ls.length=g.length
 l2:lv.length=g.length
 row:∀p,ls.getD p []=if p<i then cleanRow g.length (g.getD p [])else if p=i then acc else[]
 last:∀q,q<g.length→lv.getD q 0≤i+1∧(lv.getD q 0=i+1↔q∈acc)
section
variable {g:List (List Int)} {i:Nat} {acc:List Nat} {ls:List (List Nat)} {lv:List Int}
theorem ClR.start(g:List (List Int)):ClR g 0 [] (List.replicate g.length []) (List.replicate g.length 0):=by
 refine⟨by simp,by simp,fun p=>?_,fun q hq=>?_⟩
 ·simp only[List.getD_eq_getElem?_getD,List.getElem?_replicate];split<;>simp
 ·simp[hq]
theorem ClR.next(R:ClR g i (cleanRow g.length (g.getD i [])) ls lv):ClR g (i+1) [] ls lv:=by
 refine⟨R.l1,R.l2,fun p=>?_,fun q hq=>?_⟩
 ·rw[R.row]
  by_cases h:p<i
  ·rw[if_pos h,if_pos (by omega)]
  ·by_cases e:p=i
   ·subst e;simp
   ·rw[if_neg h,if_neg e,if_neg (by omega)];split<;>rfl
 ·have:=(R.last q hq).1;simp only[List.not_mem_nil,iff_false];omega
theorem ClR.add(R:ClR g i acc ls lv){q:Nat}(hi:i<g.length)(hq:q<g.length):ClR g i (acc++[q]) (ls.set i (acc++[q])) (lv.set q (i+1)):=by
 refine⟨by simp[R.l1],by simp[R.l2],fun p=>?_,fun k hk=>?_⟩
 ·by_cases e:p=i
  ·subst e;simp[show p<ls.length by rw[R.l1];exact hi]
  ·have e':¬i=p:=fun h=>e h.symm
   have h1:=R.row p;rw[List.getD_eq_getElem?_getD,List.getElem?_set_ne e',←List.getD_eq_getElem?_getD,h1];simp[e]
 ·by_cases e:k=q
  ·subst e;simp[show k<lv.length by rw[R.l2];exact hk]
  ·have e':¬q=k:=fun h=>e h.symm
   have h1:=R.last k hk;rw[List.getD_eq_getElem?_getD,List.getElem?_set_ne e',←List.getD_eq_getElem?_getD];refine⟨h1.1,h1.2.trans ?_⟩;simp[e]
theorem ClR.fin(R:ClR g g.length [] ls lv):ls=cleanF g:=by
 apply List.ext_getElem?;intro p
 by_cases hp:p<g.length
 ·have h1:=R.row p;rw[if_pos hp]at h1;rw[List.getElem?_eq_getElem (by rw[R.l1];exact hp),List.getElem?_eq_getElem (by rw[cleanF_len];exact hp)];rw[List.getD_eq_getElem?_getD,List.getElem?_eq_getElem (by rw[R.l1];exact hp)]at h1;simp only[Option.getD_some]at h1;rw[h1];simp[cleanF,hp]
 ·rw[List.getElem?_eq_none (by rw[R.l1];omega),List.getElem?_eq_none (by rw[cleanF_len];omega)]
theorem addE_no{n:Nat}{k:Int}(h:¬(0≤k∧k<n∧k.toNat∉acc)):addE n acc k=acc:=by unfold addE;rw[if_neg h]
theorem addE_yes{n q:Nat}(h1:q<n)(h2:q∉acc):addE n acc (q:Int)=acc++[q]:=by unfold addE;rw[if_pos ⟨by omega,by omega,by simpa using h2⟩];simp
theorem cleanRow_take{n:Nat}{l:List Int}{j:Nat}(hj:j<l.length):cleanRow n (l.take (j+1))=addE n (cleanRow n (l.take j)) (l[j]?.getD 0):=by
 rw[List.take_succ_eq_append_getElem hj,cleanRow_snoc,List.getElem?_eq_getElem hj];rfl
end
theorem uH{w:World}{g:Nat}{t:TypeId}{l:List Int}(h:Blk w g t ⟨ints l⟩){k:Nat}(hk:k<l.length):w.cell? ⟨g,k,none⟩=some (.int .i64 (l.getD k 0)):=by
 rw[h.cell];simp[ints,hk]
theorem uL{w:World}{g:Nat}{t:TypeId}{l:List Int}(h:Blk w g t ⟨ints l⟩)(k:Nat)(x:Int):Blk (w.setCell ⟨g,k,none⟩ (.int .i64 x)) g t ⟨ints (l.set k x)⟩:=by
 have:=h.set_ k (.int .i64 x);have e:(⟨ints l⟩:Array Value).setIfInBounds k (.int .i64 x)=⟨ints (l.set k x)⟩:=by
  unfold ints;rw[List.map_set];simp
 rwa [e]at this
theorem made_ints(n:Nat):madeCells #[.int .i64 0] n=⟨ints (List.replicate n 0)⟩:=by
 unfold madeCells ints;apply Array.ext
 ·simp
 ·intro i h1 h2;simp[Nat.mod_one]
theorem made_hdrs(n:Nat):madeCells #[.slice none 0 0] n=⟨hdrs (List.replicate n (none,0)) (List.replicate n [])⟩:=by
 rw[hdrs_made];unfold madeCells;apply Array.ext
 ·simp
 ·intro i h1 h2;simp[Nat.mod_one]
theorem infoSl:(Tryz.prog.info? 38).map (fun i=>(i.zero,i.size,i.bytes))=some (some (.slice none 0 0),1,24):=by kernel_rfl
theorem hdrs_cell{w:World}{G:Nat}{t:TypeId}{hs:List (Option Addr×Nat)}{ls:List (List Int)}(h:Blk w G t ⟨hdrs hs ls⟩){k:Nat}{x:Option Addr×Nat}{l:List Int}(h1:hs[k]? =some x)(h2:ls[k]? =some l):w.cell? ⟨G,k,none⟩=some (hdr x l):=by
 rw[h.cell];simpa using hdrs_at h1 h2
theorem hdrs_blk_set{w:World}{G:Nat}{t:TypeId}{hs:List (Option Addr×Nat)}{ls:List (List Int)}(h:Blk w G t ⟨hdrs hs ls⟩)(k:Nat)(x:Option Addr×Nat)(l:List Int):Blk (w.setCell ⟨G,k,none⟩ (hdr x l)) G t ⟨hdrs (hs.set k x) (ls.set k l)⟩:=by
 have:=h.set_ k (hdr x l);have e:(⟨hdrs hs ls⟩:Array Value).setIfInBounds k (hdr x l)=⟨hdrs (hs.set k x) (ls.set k l)⟩:=by
  rw[←hdrs_set];simp
 rwa [e]at this
theorem hdrs_blk_put{w:World}{G n:Nat}{t:TypeId}{hs:List (Option Addr×Nat)}{ls:List (List Int)}(h:Blk w G t ⟨hdrs hs ls⟩)(k:Nat)(A:Option Addr)(c:Nat){l:List Int}(hn:n=l.length):Blk (w.setCell ⟨G,k,none⟩ (.slice A n c)) G t ⟨hdrs (hs.set k (A,c)) (ls.set k l)⟩:=by subst hn;exact hdrs_blk_set h k (A,c) l
theorem nats_snoc(l:List Nat)(q:Nat):nats (l++[q])=nats l++[(q:Int)]:=by simp[nats]
theorem nats_len(l:List Nat):(nats l).length=l.length:=by simp[nats]
theorem nats_at(l:List Nat)(k:Nat):(nats l).getD k 0=(l.getD k 0:Nat):=by
 simp only[nats,List.getD_eq_getElem?_getD,List.getElem?_map];cases l[k]? <;>rfl
theorem ints_snoc(l:List Int)(x:Int):ints (l++[x])=ints l++[.int .i64 x]:=by simp[ints]
theorem map_nats_get(ls:List (List Nat)){k:Nat}(hk:k<ls.length):(ls.map nats)[k]? =some (nats (ls.getD k [])):=by simp[hk]
theorem clean_any(A:Option Addr)(c:Nat)(g:List (List Int))(w:World)(hr:RdL rowShape w (· <w.heap.size) A g)(hn:g.length≤100000)(hrow:∀i,i<g.length→(g.getD i []).length≤100000000):
 Calls Tryz.prog 113 #[.slice A g.length c] w (MatPost w ((cleanF g).map nats)):=by
 have hPP:∀G hs ls lv w',ClR g g.length [] ls lv→Blk w' G 38 ⟨hdrs hs (ls.map nats)⟩→OwnMat w' (G+1) 3 hs (ls.map nats)→w.heap.size≤G→Below w.heap.size w w'→MatPost w ((cleanF g).map nats) (.returned (.slice (some ⟨G,0,none⟩) g.length g.length)) w':=fun G hs ls lv w' R h1 h2 h3 h4=>by
  rw[←R.fin];exact⟨G,hs,by simp[R.l1],h1,h2,h3,h4⟩
 have HP:=eh hPP;clear hPP;generalize MatPost w ((cleanF g).map nats)=Post at*;have hm1:=fun W=>run_make_row' (P:=Tryz.prog) 144 38 (.slice none 0 0) 24 Tryz.underlying144 infoSl rfl .i64 .i64 g.length (by omega) (by omega) W
 have hm2:=fun W=>run_make_row' (P:=Tryz.prog) 38 3 (.int .i64 0) 8 Tryz.underlying38 infoIntR rfl .i64 .i64 g.length (by omega) (by omega) W
 rw[made_hdrs]at hm1;rw[made_ints]at hm2;have Hrow:=eh hrow;clear hrow;go_enter Tryz.func113,Tryz.ntmps113;go_wp2;have hw2:=((Below.refl w.heap.size w).alloc (Nat.le_refl _) (.cells ⟨hdrs (List.replicate g.length (none,0)) (List.replicate g.length [])⟩ 38)).alloc (by simp) (.cells ⟨ints (List.replicate g.length 0)⟩ 3);have b1:=(Blk.new w 38 ⟨hdrs (List.replicate g.length (none,0)) (List.replicate g.length [])⟩).alloc (.cells ⟨ints (List.replicate g.length 0)⟩ 3);have b2:=Blk.newAt (w:=w.alloc (.cells ⟨hdrs (List.replicate g.length (none,0)) (List.replicate g.length [])⟩ 38)) (g:=w.heap.size+1) (by simp) 3 ⟨ints (List.replicate g.length 0)⟩;have m0:=OwnMat.made ((w.alloc (.cells ⟨hdrs (List.replicate g.length (none,0)) (List.replicate g.length [])⟩ 38)).alloc (.cells ⟨ints (List.replicate g.length 0)⟩ 3)) (w.heap.size+2) 3 g.length;generalize(w.alloc (.cells ⟨hdrs (List.replicate g.length (none,0)) (List.replicate g.length [])⟩ 38)).alloc (.cells ⟨ints (List.replicate g.length 0)⟩ 3)=w2 at*;clear hm1 hm2;have e0:(List.replicate g.length ([]:List Nat)).map nats=List.replicate g.length []:=by simp[nats]
 rw[←e0]at b1 m0;have r0:=ClR.start g;generalize List.replicate g.length ([]:List Nat)=ls0 at*;generalize List.replicate g.length (0:Int)=lv0 at*;generalize List.replicate g.length ((none:Option Addr),0)=hs0 at*;clear e0;go_loopw [17] (fun iv wr=>∃(i:Nat) (hs:List (Option Addr×Nat)) (ls:List (List Nat)) (lv:List Int),i≤g.length∧iv=.int .i64 i∧ClR g i [] ls lv∧Blk wr w.heap.size 38 ⟨hdrs hs (ls.map nats)⟩∧OwnMat wr (w.heap.size+2) 3 hs (ls.map nats)∧Blk wr (w.heap.size+1) 3 ⟨ints lv⟩∧Below w.heap.size w wr) (fun iv _=>g.length-(intOf iv).toNat)
 case atStart=>exact⟨0,_,_,_,Nat.zero_le _,rfl,r0,b1,m0,b2,hw2⟩
 case round=>
  clear b1 m0 b2 hw2 r0;obtain⟨i,hs,ls,lv,hi,rfl,R,b1,m0,b2,hb⟩:=hrel
  by_cases hlt:i<g.length
  ·have k0:(0:Int)≤i:=by omega
   have k1:(i:Int)<g.length:=by omega
   obtain⟨b,off,A1,c1,rfl,hbb,x0',hrd⟩:=rd_row hr hlt;have x0:=(hb.cell (p:=⟨b,off+i,none⟩) hbb).trans x0';clear x0';have hlen:=Hrow.out i hlt;have Hct:=eh (fun j (hj:j<(g.getD i []).length)=>cleanRow_take (n:=g.length) hj);have Hnx:=eh (fun ls lv (h:ClR g i (cleanRow g.length (g.getD i [])) ls lv)=>h.next);generalize g.getD i []=row at*;clear hlt;go_wp2;go_loopw [24] (fun jv w2=>∃(j:Nat) (hs:List (Option Addr×Nat)) (ls:List (List Nat)) (lv:List Int),j≤row.length∧jv=.int .i64 j∧ClR g i (cleanRow g.length (row.take j)) ls lv∧Blk w2 w.heap.size 38 ⟨hdrs hs (ls.map nats)⟩∧OwnMat w2 (w.heap.size+2) 3 hs (ls.map nats)∧Blk w2 (w.heap.size+1) 3 ⟨ints lv⟩∧Below w.heap.size w w2) (fun jv _=>row.length-(intOf jv).toNat)
   case atStart=>exact⟨0,_,_,_,Nat.zero_le _,rfl,by simpa[cleanRow]using R,b1,m0,b2,hb⟩
   case round=>
    clear R b1 m0 b2 hb x0;obtain⟨j,hs,ls,lv,hj,rfl,R,b1,m0,b2,hb⟩:=hrel;have hz:=hb.size
    by_cases hjl:j<row.length
    ·have j0:(0:Int)≤j:=by omega
     have j1:(j:Int)<row.length:=by omega
     obtain⟨bo,oo,rfl,hbo,y0⟩:=uX ((hrd.keep (Kept.of_below hb fun _ h=>h)).rd (fun _ h=>h)) hjl;have HR:=eh (Hct.out j hjl);have hal:=cleanRow_len (n:=g.length) (row.take j);generalize cleanRow g.length (row.take j)=acc at*;generalize row[j]?.getD 0=x at*;have Hno:=eh (fun(h:¬(0≤x∧x<g.length∧x.toNat∉acc))=>(show ClR g i (cleanRow g.length (row.take (j+1))) ls lv by rw[HR.out,addE_no h];exact R))
     by_cases hx0:0≤x
     ·obtain⟨q,rfl⟩:∃q:Nat,x=q:=⟨x.toNat,by omega⟩
      by_cases hq:q<g.length
      ·have q1:(q:Int)<g.length:=by omega
       have y1:=uH b2 (show q<lv.length by rw[R.l2];exact hq);have hlast:=R.last q hq
       by_cases hm:q∈acc
       ·rw[hlast.2.2 hm]at y1;have hl2:=b2.lt;clear hlast;go_wp2;go_roundw
        case rel=>exact⟨j+1,_,_,_,by omega,by go_num,Hno.out (by simp[hm]),b1,m0,b2,hb⟩
        case measure=>simp[intOf];omega
       ·have g0:lv.getD q 0≠(i:Int)+1:=fun e=>hm (hlast.2.1 e)
        have g1:(lv.getD q 0==(i:Int)+1)=false:=by simpa using g0
        have g2:(lv.getD q 0 != (i:Int)+1)=true:=by simpa using g0
        clear g0;have HR2:=eh (show ClR g i (cleanRow g.length (row.take (j+1))) (ls.set i (acc++[q])) (lv.set q (i+1)) by rw[HR.out,addE_yes hq hm];exact R.add (by omega) hq);clear hlast;generalize lv.getD q 0=z at y1 g1 g2;have hl2:=b2.lt;have hl1:=b1.lt;have f1:=b2.frozen q;have hli:i<ls.length:=by rw[R.l1];omega
        have hrow':ls.getD i []=acc:=by rw[R.row i];simp
        have hget:=map_nats_get ls hli;rw[hrow']at hget;obtain⟨A2,c2,hh1,hh2,hown⟩:=m0.get (k:=i) (by simpa using hli);rw[show(ls.map nats).getD i []=nats acc by rw[List.getD_eq_getElem?_getD,hget];rfl]at hown;clear R hh2;have b2':=uL b2 q ((i:Int)+1);have b1':=b1.far (p:=⟨w.heap.size+1,q,none⟩) (by simp) (.int .i64 ((i:Int)+1));have hgs:=uA wr ⟨w.heap.size+1,q,none⟩ (.int .i64 ((i:Int)+1));have m0':=m0.far hgs (Nat.lt_succ_self _);have hown':=uS hown hgs (.inl (uF (Nat.lt_succ_self _) hown));have hb':=hb.setCell (p:=⟨w.heap.size+1,q,none⟩) (by simp) (.int .i64 ((i:Int)+1));have hnla:nats (acc++[q])=nats acc++[(q:Int)]:=nats_snoc acc q;have hla:(nats acc).length≤100000:=by rw[nats_len];omega
        have hset:(ls.set i (acc++[q])).map nats=(ls.map nats).set i (nats acc++[(q:Int)]):=by rw[List.map_set,hnla]
        have Hset:=eh hset;have hlm:i<(ls.map nats).length:=by simpa using hli
        clear hown m0 b1 b2 hgs hset hnla hrow' hli;go_upto_region 11 with(fail);generalize wr.setCell ⟨w.heap.size+1,q,none⟩ (.int .i64 ((i:Int)+1))=w3 at*;generalize nats acc=la at*;generalize ls.map nats=lm at*;have y2:w3.cell? ⟨w.heap.size,i,none⟩=some (.slice A2 la.length c2):=hdrs_cell b1' hh1 hget;have hl3:=b2'.lt;clear y1 f1 hl1 hl2 y0;go_wp2_with (at_builtin
                                                                                                                                                                                                                                                                                                                                                                       refine wpList_append_row rfl (.tmp 55) (.tmp 57) 38 rfl (w.heap.size+2) 3 _ 1 8 Tryz.underlying38 infoIntR rfl (by omega) A2 c2 la.length (ints la) rfl (hown'.alloc _) w3.heap.size 1 1 3 [.int .i64 (q:Int)] rfl (Blk.new _ _ _) rfl (by intro u hu;simp at hu;subst hu;rfl) (by unfold maxLen;omega) (by omega) (by simp;omega) ?_;intro A3 c3 w1 hown3 hg3 hat3;have b1'':=(b1'.alloc _).grown hg3 (fun e=>uF (g:=w.heap.size) (by omega) hown' e.symm);have y4:=hdrs_cell b1'' hh1 hget;have f4:=b1''.frozen i)
        go_roundw
        case rel=>exact⟨j+1,hs.set i (A3,c3),ls.set i (acc++[q]),_,by omega,by go_num,HR2.out,by rw[Hset.out];exact hdrs_blk_put b1'' i A3 c3 (by simp),by
         rw[Hset.out];exact((m0'.alloc _).grown hh1 hlm hown3 (by simp) (by simp[ints]) hg3 hat3).far (uA _ _ _) (by simp),((b2'.alloc _).grown hg3 (fun e=>uF (g:=w.heap.size+1) (by omega) hown' e.symm)).far (by simp) _,((hb'.alloc hb'.size _).grown hg3 (by simp;omega) (fun k hk=>by have:=(hown'.lt k hk).1;omega)).setCell (by simp) _⟩
        case measure=>simp[intOf];omega
      ·have q1:¬(q:Int)<g.length:=by omega
       go_wp2;go_roundw
       case rel=>exact⟨j+1,_,_,_,by omega,by go_num,Hno.out (by omega),b1,m0,b2,hb⟩
       case measure=>simp[intOf];omega
     ·have g1:decide (0≤x)=false:=by simpa using hx0
      have Hno2:=eh (Hno.out (by omega));clear hx0;go_wp2;go_roundw
      case rel=>exact⟨j+1,_,_,_,by omega,by go_num,Hno2.out,b1,m0,b2,hb⟩
      case measure=>simp[intOf];omega
    ·have e:j=row.length:=by omega
     have hge:¬(j:Int)<row.length:=by omega
     have R2:=Hnx.out ls lv (by rw[e,List.take_length]at R;exact R);clear hjl e R;go_wp2;go_roundw
     case rel=>exact⟨i+1,_,_,_,by omega,by go_num,R2,b1,m0,b2,hb⟩
     case measure=>simp[intOf];omega
  ·have e:i=g.length:=by omega
   subst e;clear hlt hi;go_wp2;exact HP.out _ _ _ _ _ R b1 (m0.lower (by omega)) (Nat.le_refl _) hb
def WalkPost(w:World)(g:List (List Int))(e:Ending)(w':World):Prop:=
 ∃G A2 c2 A3 n3 c3 s,e=.returned (.tuple #[.slice (some ⟨G,0,none⟩) g.length g.length,.slice A2 s.post.length c2,.slice A3 n3 c3])∧(0<g.length→DfsInv (cleanF g) s∧s.stack=[])∧(g.length=0→s.post=[])∧
  Blk w' G 3 ⟨ints (nats s.st)⟩∧w'.ownsRow w.heap.size 3 1 (.slice A2 s.post.length c2) s.post.length (ints (nats s.post))∧Below w.heap.size w w'
theorem own_types{w:World}{b1 b2:Nat}{e1 e2:TypeId}{s1 s2 n1 n2:Nat}{v1 v2:Value}{x1 x2:List Value}(h1:w.ownsRow b1 e1 s1 v1 n1 x1)(h2:w.ownsRow b2 e2 s2 v2 n2 x2)(hne:e1≠e2):Apart v1 v2:=by
 intro g hg hg2;rcases h1.2 with⟨rfl,_⟩|⟨g1,c1,cur1,rfl,_,q1,_⟩
 ·simp[Value.ownBlock]at hg
 ·rcases h2.2 with⟨rfl,_⟩|⟨g2,c2,cur2,rfl,_,q2,_⟩
  ·simp[Value.ownBlock]at hg2
  ·simp only[Value.ownBlock,Option.some.injEq]at hg hg2;subst hg hg2;rw[q1]at q2;injection q2 with q2
   injection q2 with _ q2
   exact hne q2
theorem own_at{w:World}{base n c:Nat}{e:TypeId}{A:Option Addr}{l:List Int}(h:w.ownsRow base e 1 (.slice A n c) n (ints l)){k:Nat}(hk:k<n):∃g,A=some ⟨g,0,none⟩∧base≤g∧g<w.heap.size∧n≤c∧w.cell? ⟨g,k,none⟩=some (.int .i64 (l.getD k 0)):=by
 have hl:l.length=n:=by simpa[ints]using h.1
 rcases h.2 with⟨hv,hn⟩|⟨g,cap,cur,hv,hb,hh,hnc,_⟩
 ·omega
 ·cases hv;refine⟨g,rfl,hb,(Array.getElem?_eq_some_iff.1 hh).1,hnc,?_⟩;have:=h.cells (g:=g) rfl k (.int .i64 (l.getD k 0)) (by simp[ints,show k<l.length by omega]);have e1:(⟨g,0,none⟩:Addr).add k=⟨g,k,none⟩:=by
   unfold Addr.add
   by_cases hj:k=0<;>simp[hj]
  rwa [e1]at this
theorem nats_set(l:List Nat)(k v:Nat):(nats l).set k (v:Int)=nats (l.set k v):=by simp[nats,List.map_set]
theorem nats_blk_set{w:World}{g:Nat}{t:TypeId}{l:List Nat}(h:Blk w g t ⟨ints (nats l)⟩)(k v:Nat)(x:Int)(hx:x=v):Blk (w.setCell ⟨g,k,none⟩ (.int .i64 x)) g t ⟨ints (nats (l.set k v))⟩:=by
 subst hx;have:=uL h k v
 rwa [nats_set]at this
theorem nats_cell{w:World}{g:Nat}{t:TypeId}{l:List Nat}(h:Blk w g t ⟨ints (nats l)⟩){k:Nat}(hk:k<l.length):w.cell? ⟨g,k,none⟩=some (.int .i64 ((l.getD k 0:Nat):Int)):=by
 rw[uH h (by rw[nats_len];exact hk),nats_at]
theorem ints_nats_take(l:List Nat)(x:Nat):(ints (nats (l++[x]))).take l.length=ints (nats l):=by simp[ints,nats]
theorem info2:(Tryz.prog.info? 38).map (fun i=>(i.zero,i.size,i.bytes))=some (some (.slice none 0 0),1,24):=by kernel_rfl
theorem walk_any(A:Option Addr)(c:Nat)(g:List (List Int))(w:World)(hr:RdL rowShape w (· <w.heap.size) A g)(hn:g.length≤100000)(hrow:∀i,i<g.length→(g.getD i []).length≤100000000):
 Calls Tryz.prog 114 #[.slice A g.length c] w (WalkPost w g):=by
 have hPP:∀G A2 c2 A3 n3 c3 s w',(0<g.length→DfsInv (cleanF g) s∧s.stack=[])→(g.length=0→s.post=[])→Blk w' G 3 ⟨ints (nats s.st)⟩→w'.ownsRow w.heap.size 3 1 (.slice A2 s.post.length c2) s.post.length (ints (nats s.post))→Below w.heap.size w w'→
  WalkPost w g (.returned (.tuple #[.slice (some ⟨G,0,none⟩) g.length g.length,.slice A2 s.post.length c2,.slice A3 n3 c3])) w':=fun G A2 c2 A3 n3 c3 s w' h1 h2 h3 h4 h5=>⟨G,A2,c2,A3,n3,c3,s,rfl,h1,h2,h3,h4,h5⟩
 have HP:=eh hPP;clear hPP;generalize WalkPost w g=Post at*;have hm2:=fun W=>run_make_row' (P:=Tryz.prog) 38 3 (.int .i64 0) 8 Tryz.underlying38 infoIntR rfl .i64 .i64 g.length (by omega) (by omega) W
 rw[made_ints]at hm2;have Hm:=eh hm2;have Hcl:=eh (clean_any A c g w hr hn hrow);have hcl:=cleanF_len (g:=g);have hcg:∀i,((cleanF g).getD i []).length≤g.length:=fun i=>by
  rw[cleanF_at];split
  ·exact cleanRow_len _
  ·simp
 have hcm:∀i k,k∈(cleanF g).getD i []→k<g.length:=fun i k hk=>((eg_clean i k).1 hk).1
 generalize cleanF g=cg at*;clear hm2 hrow hr;go_enter Tryz.func114,Tryz.ntmps114;go_wp2_with fail;refine(Hcl.out).mono ?_;rintro e w1 ⟨G,hs,rfl,bG,mG,hG,hb1⟩;have hmat:=mG.rd bG (S:=fun b=>b<w1.heap.size) bG.lt (fun b _ h=>h);clear Hcl mG bG;have hml:(cg.map nats).length=g.length:=by simpa using hcl
 rw[hml]
 by_cases h0:g.length=0
 ·have hm2:=Hm.out;have e1:((g.length:Int)==0)=true:=by simpa using h0
  have b1:=Blk.new w1 3 ⟨ints (List.replicate g.length 0)⟩;have hw:=hb1.alloc hb1.size (.cells ⟨ints (List.replicate g.length 0)⟩ 3);have hrz:List.replicate g.length (0:Int)=nats (List.replicate g.length 0):=by simp[nats]
  rw[hrz]at hm2 b1 hw;clear hrz;have H0:=eh h0;clear h0;generalize List.replicate g.length 0=z0 at*;go_wp2;go_ret3;exact HP.out _ none 0 none 0 0 ⟨z0,[],[],[]⟩ _ (fun h=>by have:=H0.out;omega) (fun _=>rfl) b1 (World.ownsRow_nil _ _ _ _) hw
 ·have hm2:=Hm.out;have hpos:0<cg.length:=by omega
  have e1:((g.length:Int)==0)=false:=by
   have :(g.length:Int)≠0:=by omega
   simpa using this
  have hrz:List.replicate g.length (0:Int)=nats (List.replicate g.length 0):=by simp[nats]
  rw[hrz]at hm2;have hl0:(List.replicate g.length 0).length=g.length:=by simp
  have HI:=eh (DfsInv.start (g:=cg) hpos);have hz0:(ints (nats (List.replicate g.length 0)))[0]? =some (.int .i64 0):=by
   have :0<g.length:=by omega
   simp[ints,nats,this]
  have hst:((ints (nats (List.replicate g.length 0))).set 0 (Value.int .i64 1)).toArray=⟨ints (nats ((List.replicate g.length 0).set 0 1))⟩:=by simp[ints,nats,List.map_set]
  rw[hcl]at HI;have p0:0<g.length:=by omega
  have p1:(0:Int)<g.length:=by omega
  clear hrz h0 hpos;generalize List.replicate g.length 0=z0 at*;go_wp2;have hb2:=(((Below.refl w1.heap.size w1).alloc (Nat.le_refl _) (.cells ⟨ints (nats (z0.set 0 1))⟩ 3)).alloc (by simp) (.cells ⟨ints (nats z0)⟩ 3)).alloc (by simp;omega) (.cells #[.int .i64 0] 3);have b1:=((Blk.new w1 3 ⟨ints (nats (z0.set 0 1))⟩).alloc (.cells ⟨ints (nats z0)⟩ 3)).alloc (.cells #[.int .i64 0] 3);have b2:=(Blk.newAt (w:=w1.alloc (.cells ⟨ints (nats (z0.set 0 1))⟩ 3)) (g:=w1.heap.size+1) (by simp) 3 ⟨ints (nats z0)⟩).alloc (.cells #[.int .i64 0] 3);have b3:=Blk.newAt (w:=(w1.alloc (.cells ⟨ints (nats (z0.set 0 1))⟩ 3)).alloc (.cells ⟨ints (nats z0)⟩ 3)) (g:=w1.heap.size+1+1) (by simp) 3 #[.int .i64 0];generalize((w1.alloc (.cells ⟨ints (nats (z0.set 0 1))⟩ 3)).alloc (.cells ⟨ints (nats z0)⟩ 3)).alloc (.cells #[.int .i64 0] 3)=w2 at*;have hz:=hb1.size;have own3:w2.ownsRow (w1.heap.size+2) 3 1 (.slice (some ⟨w1.heap.size+1+1,0,none⟩) 1 1) 1 (ints (nats [0])):=⟨rfl,.inr ⟨w1.heap.size+1+1,1,#[.int .i64 0],rfl,by omega,b3,by omega,by unfold maxLen;omega,rfl,rfl⟩⟩;clear hm2 Hm hst hz0 hl0 b3;generalize w1.heap.size=H at*;have hrest:=restN_le hcg z0;have hE:restN cg z0≤10000000000:=by
   rw[hcl]at hrest;exact Nat.le_trans hrest (Nat.le_trans (Nat.mul_le_mul hn hn) (by omega))
  clear hrest;go_loopg [3,4,6] (dfsMu cg ⟨z0.set 0 1,z0,[0],[]⟩+1) (fun n pv bv sv wr=>∃(s:Dfs) (Ap Ab As:Option Addr) (cp cb cs nb:Nat) (xb:List Value),dfsMu cg s<n∧pv=.slice Ap s.post.length cp∧bv=.slice Ab nb cb∧sv=.slice As s.stack.length cs∧Hid (DfsInv cg s)∧nb+restN cg s.nx≤restN cg z0∧Blk wr H 3 ⟨ints (nats s.st)⟩∧Blk wr (H+1) 3 ⟨ints (nats s.nx)⟩∧
   wr.ownsRow (H+2) 3 1 (.slice As s.stack.length cs) s.stack.length (ints (nats s.stack))∧wr.ownsRow (H+2) 3 1 (.slice Ap s.post.length cp) s.post.length (ints (nats s.post))∧wr.ownsRow (H+2) 38 1 (.slice Ab nb cb) nb xb∧Apart (.slice As s.stack.length cs) (.slice Ap s.post.length cp)∧Below H w1 wr)
  case atStart=>exact⟨⟨z0.set 0 1,z0,[0],[]⟩,none,none,some ⟨H+1+1,0,none⟩,0,0,1,0,[],Nat.lt_succ_self _,rfl,rfl,rfl,HI,(by show 0+restN cg z0≤restN cg z0;omega),b1,b2,own3,World.ownsRow_nil _ _ _ _,World.ownsRow_nil _ _ _ _,(Apart.none 0 0).symm,hb2⟩
  case round=>
   clear HI b1 b2 own3 hb2;obtain⟨s,Ap,Ab,As,cp,cb,cs,nb,xb,hmu,rfl,rfl,rfl,I,hnb,b1,b2,o1,o2,o3,hap,hb⟩:=hrel
   by_cases hs0:s.stack=[]
   ·have hlen:s.stack.length=0:=by rw[hs0];rfl
    have hfin:(0<g.length→DfsInv cg s∧s.stack=[])∧(g.length=0→s.post=[]):=⟨fun _=>⟨I.out,hs0⟩,fun h=>by omega⟩;have HF:=eh hfin;rw[hlen];clear hs0 hlen hfin o1 hap hmu;go_wp2;go_ret3;exact HP.out _ _ _ _ _ _ _ _ HF.out.1 HF.out.2 b1 (own_base o2 (by omega)) (hb1.trans (hb.mono hz))
   ·obtain⟨a,i,hai⟩:∃a i,s.stack=a++[i]:=⟨s.stack.dropLast,s.stack.getLast hs0,(List.dropLast_concat_getLast hs0).symm⟩;have hII:=I.out;have hil:i<cg.length:=hII.inr i (by simp[hai]);have hsl:=hII.stack_le;have hpl:=hII.post_le;have hlen:s.stack.length=a.length+1:=by rw[hai];simp
    have hsc:s.stack.getD a.length 0=i:=by rw[hai];simp
    have hnle:=hII.nle i;have hlst:=hII.lst;have hlnx:=hII.lnx;rw[hlen]at o1 hap hsl;obtain⟨gs,rfl,hgs1,hgs2,hgs3,y0⟩:=own_at (l:=nats s.stack) o1 (k:=a.length) (by omega);rw[nats_at,hsc]at y0;have y1:=nats_cell b2 (show i<s.nx.length by omega);obtain⟨bm,offm,A5,c5,e5,hbm,y2,hrowi⟩:=rd_row hmat (k:=i) (by simpa using hil);injection e5 with e5
    injection e5 with e5 e6
    subst e5 e6;have hli:(cg.map nats).getD i []=nats (cg.getD i []):=by rw[List.getD_eq_getElem?_getD,map_nats_get cg hil];rfl
    rw[hli]at y2 hrowi;have y2':=(hb.cell (p:=⟨G,0+i,none⟩) hbm).trans y2;rw[Nat.zero_add]at y2';have hl2:=b2.lt;have k0:(0:Int)≤i:=by omega
    have k1:(i:Int)<g.length:=by omega
    have k2:((a.length:Int)+1-1)=a.length:=by omega
    have Hai:=eh hai;have Hsc:=eh hsc;have Hlen:=eh hlen;have hcgi:=hcg i;rw[hlen];clear hai hsc hlen hs0 y2 hli hII;have hrl:(nats (cg.getD i [])).length=(cg.getD i []).length:=nats_len _;rw[hrl]at y2'
    by_cases hf:s.nx.getD i 0=(cg.getD i []).length
    ·have hI':=eh (I.out.leave Hai.out hf);generalize cg.getD i []=row at*;generalize s.nx.getD i 0=m at*;have f1:((m:Int)==(row.length:Int))=true:=by rw[hf];simp
     have f2:(m==row.length)=true:=by rw[hf];simp
     clear hf;go_wp2;go_quiet (fail);rename Nat=>q
     have b1q:Blk (wr.drewN q) H 3 ⟨ints (nats s.st)⟩:=b1;have b2q:Blk (wr.drewN q) (H+1) 3 ⟨ints (nats s.nx)⟩:=b2;have o1q:=own_drewN o1 q;have o2q:=own_drewN o2 q;have o3q:=own_drewN o3 q;have hbq:=uC hb q;clear b1 b2 o1 o2 o3 hb y0 y1 y2' hl2 hgs2;generalize wr.drewN q=w3 at*;have y3:=nats_cell b1q (show i<s.st.length by omega);have f3:=b1q.frozen i;have hl3:=b1q.lt;go_upto_region 12 with(fail);have hgw:=uA w3 ⟨H,i,none⟩ (.int .i64 2);have b1w:=nats_blk_set b1q i 2 2 rfl;have b2w:=b2q.far (p:=⟨H,i,none⟩) (by simp) (.int .i64 2);have o1w:=uS o1q hgw (.inl (uF (by show H<H+2;omega) o1q));have o2w:=uS o2q hgw (.inl (uF (by show H<H+2;omega) o2q));have o3w:=uS o3q hgw (.inl (uF (by show H<H+2;omega) o3q));have hbw:=hbq.setCell (p:=⟨H,i,none⟩) (Nat.le_refl _) (.int .i64 2);clear b1q b2q o1q o2q o3q hbq hgw y3 f3 hl3;generalize w3.setCell ⟨H,i,none⟩ (.int .i64 2)=w4 at*;have hl4:=b2w.lt;have hmu':=DfsInv.leave_mu (g:=cg) Hai.out (s.st.set i 2) (s.post++[i]);have Htk:=eh (show(ints (nats s.stack)).take a.length=ints (nats a) by rw[Hai.out];exact ints_nats_take a i);clear f1 f2 hnle;go_wp2_with (at_builtin
                                                                                                                                                                                                                                                                                                                                                                                                                                                                                                                                                                                                                                                                                                                                                                                                                                                                                                                                                                                                                                                                                                                                                    refine wpList_append_row rfl (.tmp 46) (.tmp 48) 38 rfl (H+2) 3 _ 1 8 Tryz.underlying38 infoIntR rfl (by omega) Ap cp s.post.length (ints (nats s.post)) rfl (o2w.alloc _) w4.heap.size 1 1 3 [.int .i64 (i:Int)] rfl (Blk.new _ _ _) rfl (by intro u hu;simp at hu;subst hu;rfl) (by unfold maxLen;omega) (by omega) (by simp;omega) ?_;intro A6 c6 w5 hown6 hg6 hat6)
     go_roundg (dfsMu cg ⟨s.st.set i 2,s.nx,a,s.post++[i]⟩+1)
     case measure=>omega
     case rel=>
      have hg5:w4.grownBy w5 (Value.slice Ap s.post.length cp).ownBlock:=(World.grownBy_alloc w4 _ _).trans hg6;have hat5:(Value.slice A6 (s.post.length+1) c6).ownBlock=(Value.slice Ap s.post.length cp).ownBlock∨(Value.slice A6 (s.post.length+1) c6).ownBlock=some (w4.alloc (.cells #[.int .i64 (i:Int)] 3)).heap.size:=hat6;have o1':=own_take (k:=a.length) (own_apart o1w hg5 hap) (by omega) (fun h=>by cases h);rw[Htk.out]at o1';refine⟨⟨s.st.set i 2,s.nx,a,s.post++[i]⟩,A6,Ab,some ⟨gs,0,none⟩,c6,cb,cs,nb,xb,Nat.lt_succ_self _,by simp,rfl,rfl,hI',hnb,b1w.grown hg5 (fun e=>uF (g:=H) (by omega) o2w e.symm),b2w.grown hg5 (fun e=>uF (g:=H+1) (by omega) o2w e.symm),o1',?_,own_apart o3w hg5 (own_types o3w o2w (by decide)),?_,(hbw.grown hg5 (by omega) (fun k hk=>by have:=(o2w.lt k hk).1;omega))⟩
      ·have e1:(s.post++[i]).length=s.post.length+1:=by simp
       have e2:ints (nats (s.post++[i]))=ints (nats s.post)++[.int .i64 (i:Int)]:=by rw[nats_snoc,ints_snoc]
       show w5.ownsRow (H+2) 3 1 (.slice A6 (s.post++[i]).length c6) (s.post++[i]).length (ints (nats (s.post++[i])));rw[e1,e2];exact hown6
      ·refine(Apart.next hap.symm (o1w.alloc (.cells #[.int .i64 (i:Int)] 3)) ?_).symm.same rfl;have e1:(s.post++[i]).length=s.post.length+1:=by simp
       show(Value.slice A6 (s.post++[i]).length c6).ownBlock=_∨_;rw[e1];exact hat5
    ·have hlt:s.nx.getD i 0<(cg.getD i []).length:=by omega
     obtain⟨k,hk⟩:∃k,(cg.getD i [])[s.nx.getD i 0]? =some k:=⟨_,List.getElem?_eq_getElem hlt⟩;have hkl:k<g.length:=hcm i k (List.mem_of_getElem? hk);have hpass:=eh (fun h=>I.out.pass hil hk h (by rw[Hai.out];simp));have hpush:=eh (fun h=>I.out.push Hai.out (by omega) hk h);have hrest:=I.out.rest hil hk;have hmu1:=fun x y z hz=>I.out.pass_mu hil hk x y z hz
     have hle2:=I.out.le2 k;obtain⟨br,orr,rfl,hbr,y4'⟩:=uX (hrowi.rd (fun _ h=>h)) (k:=s.nx.getD i 0) (by rw[hrl];exact hlt);generalize cg.getD i []=row at*;generalize s.nx.getD i 0=m at*;have hkv:(nats row)[m]?.getD 0=(k:Int):=by simp[nats,hk]
     rw[hkv]at y4';have y4:=(hb.cell (p:=⟨br,orr+m,none⟩) hbr).trans y4';have hE2:=eh hrest;have Hmu1:=eh hmu1;have k3:(0:Int)≤k:=by omega
     have k4:(k:Int)<g.length:=by omega
     have k5:(m:Int)<(row.length:Int):=by omega
     have k6:(0:Int)≤(m:Int):=by omega
     have f1:((m:Int)==(row.length:Int))=false:=by
      have :(m:Int)≠(row.length:Int):=by omega
      simpa using this
     have f2:(m==row.length)=false:=by simpa using hf
     clear hk hrest y4' hkv hmu1 hf;go_wp2;go_quiet (fail);rename Nat=>q0
     go_wp2;go_quiet (fail);rename Nat=>q
     have b1q:Blk ((wr.drewN q0).drewN q) H 3 ⟨ints (nats s.st)⟩:=b1;have b2q:Blk ((wr.drewN q0).drewN q) (H+1) 3 ⟨ints (nats s.nx)⟩:=b2;have o1q:=own_drewN (own_drewN o1 q0) q;have o2q:=own_drewN (own_drewN o2 q0) q;have o3q:=own_drewN (own_drewN o3 q0) q;have hbq:=uC (uC hb q0) q;have y1q:((wr.drewN q0).drewN q).cell? ⟨H+1,i,none⟩=some (.int .i64 (m:Int)):=y1;clear b1 b2 o1 o2 o3 hb y0 y1 y2' hl2 hgs2 y4;generalize(wr.drewN q0).drewN q=w3 at*;have f3:=b2q.frozen i;have hl3:=b2q.lt;have hx:((m:Int)+1)=((m+1:Nat):Int):=by omega
     have hgw:=uA w3 ⟨H+1,i,none⟩ (.int .i64 ((m:Int)+1));have b1w:=b1q.far (p:=⟨H+1,i,none⟩) (by simp) (.int .i64 ((m:Int)+1));have b2w:=nats_blk_set b2q i (m+1) ((m:Int)+1) hx;have o1w:=uS o1q hgw (.inl (uF (by show H+1<H+2;omega) o1q));have o2w:=uS o2q hgw (.inl (uF (by show H+1<H+2;omega) o2q));have o3w:=uS o3q hgw (.inl (uF (by show H+1<H+2;omega) o3q));have hbw:=hbq.setCell (p:=⟨H+1,i,none⟩) (by show H≤H+1;omega) (.int .i64 ((m:Int)+1));clear b1q b2q o1q o2q o3q hbq hgw hx;go_upto_region 16 with(fail);generalize w3.setCell ⟨H+1,i,none⟩ (.int .i64 ((m:Int)+1))=w4 at*;clear y1q f3 hl3;have hl4:=b2w.lt;have y5:=nats_cell b1w (show k<s.st.length by omega);have hz3:s.st.getD k 0=0∨s.st.getD k 0=1∨s.st.getD k 0=2:=by omega
     generalize hv:s.st.getD k 0=v at*;have Hv:=eh hv;clear hv hle2;rcases hz3 with rfl|rfl|rfl
     · --fresh
      have hP:=eh (hpush.out rfl);have f5:=b1w.frozen k;have hk5:=b1w.lt;go_upto_region 19 with(fail);have hgx:=uA w4 ⟨H,k,none⟩ (.int .i64 1);have b1x:=nats_blk_set b1w k 1 1 rfl;have b2x:=b2w.far (p:=⟨H,k,none⟩) (by simp) (.int .i64 1);have o1x:=uS o1w hgx (.inl (uF (by show H<H+2;omega) o1w));have o2x:=uS o2w hgx (.inl (uF (by show H<H+2;omega) o2w));have o3x:=uS o3w hgx (.inl (uF (by show H<H+2;omega) o3w));have hbx:=hbw.setCell (p:=⟨H,k,none⟩) (Nat.le_refl _) (.int .i64 1);clear b1w b2w o1w o2w o3w hbw hgx y5 f5 hk5;generalize w4.setCell ⟨H,k,none⟩ (.int .i64 1)=w5 at*;have hl5:=b2x.lt;go_wp2_with (at_builtin
                                                                                                                                                                                                                                                                                                                                                                                                                                                                                                                                                                                                                                   refine wpList_append_row rfl (.tmp 80) (.tmp 82) 38 rfl (H+2) 3 _ 1 8 Tryz.underlying38 infoIntR rfl (by omega) (some ⟨gs,0,none⟩) cs (a.length+1) (ints (nats s.stack)) rfl (o1x.alloc _) w5.heap.size 1 1 3 [.int .i64 (k:Int)] rfl (Blk.new _ _ _) rfl (by intro u hu;simp at hu;subst hu;rfl) (by unfold maxLen;omega) (by omega) (by simp;omega) ?_;intro A6 c6 w6 hown6 hg6 hat6)
      go_roundg (dfsMu cg ⟨s.st.set k 1,s.nx.set i (m+1),s.stack++[k],s.post⟩+1)
      case measure=>
       have:=Hmu1.out (s.st.set k 1) s.post (s.stack++[k]) (by simp);omega
      case rel=>
       have hg7:w5.grownBy w6 (Value.slice (some ⟨gs,0,none⟩) (a.length+1) cs).ownBlock:=(World.grownBy_alloc w5 _ _).trans hg6;have e1:(s.stack++[k]).length=a.length+1+1:=by rw[List.length_append,Hlen.out];rfl
       have e2:ints (nats (s.stack++[k]))=ints (nats s.stack)++[.int .i64 (k:Int)]:=by rw[nats_snoc,ints_snoc]
       refine⟨⟨s.st.set k 1,s.nx.set i (m+1),s.stack++[k],s.post⟩,Ap,Ab,A6,cp,cb,c6,nb,xb,Nat.lt_succ_self _,rfl,rfl,by rw[e1],hP,by have:=hE2.out;show nb+restN cg (s.nx.set i (m+1))≤_;omega,b1x.grown hg7 (fun e=>uF (g:=H) (by omega) o1x e.symm),b2x.grown hg7 (fun e=>uF (g:=H+1) (by omega) o1x e.symm),?_,own_apart o2x hg7 hap.symm,own_apart o3x hg7 (own_types o3x o1x (by decide)),?_,(hbx.grown hg7 (by omega) (fun j hj=>by have:=(o1x.lt j hj).1;omega))⟩
       ·show w6.ownsRow (H+2) 3 1 (.slice A6 (s.stack++[k]).length c6) (s.stack++[k]).length (ints (nats (s.stack++[k])));rw[e1,e2];exact hown6
       ·show Apart (.slice A6 (s.stack++[k]).length c6) _;rw[e1];exact Apart.next hap (o2x.alloc (.cells #[.int .i64 (k:Int)] 3)) hat6
     · --open
      have hP:=eh (hpass.out (by omega));go_upto_region 21 with(fail);have hnn:=hE2.out;clear y5;go_wp2_with (at_builtin
                                                                                                              refine wpList_append_row rfl (.tmp 86) (.tmp 90) 144 rfl (H+2) 38 _ 1 24 Tryz.underlying144 info2 rfl (by omega) Ab cb nb xb rfl ((o3w.alloc _).alloc _) (w4.heap.size+1) 1 1 38 [.slice (some ⟨w4.heap.size,0,none⟩) 2 2] rfl (Blk.newAt (by simp) _ _) rfl (by intro u hu;simp at hu;subst hu;rfl) (by unfold maxLen;omega) (by omega) (by simp;omega) ?_;intro A6 c6 w6 hown6 hg6 hat6)
      go_roundg (dfsMu cg ⟨s.st,s.nx.set i (m+1),s.stack,s.post⟩+1)
      case measure=>
       have:=Hmu1.out s.st s.post s.stack (by omega);omega
      case rel=>
       have hg7:w4.grownBy w6 (Value.slice Ab nb cb).ownBlock:=((World.grownBy_alloc w4 _ _).trans (World.grownBy_alloc _ _ _)).trans hg6;refine⟨⟨s.st,s.nx.set i (m+1),s.stack,s.post⟩,Ap,A6,some ⟨gs,0,none⟩,cp,c6,cs,nb+1,_,Nat.lt_succ_self _,rfl,rfl,by rw[Hlen.out],hP,by show nb+1+restN cg (s.nx.set i (m+1))≤_;omega,b1w.grown hg7 (fun e=>uF (g:=H) (by omega) o3w e.symm),b2w.grown hg7 (fun e=>uF (g:=H+1) (by omega) o3w e.symm),?_,own_apart o2w hg7 (own_types o2w o3w (by decide)),hown6,?_,(hbw.grown hg7 (by omega) (fun j hj=>by have:=(o3w.lt j hj).1;omega))⟩
       ·show w6.ownsRow (H+2) 3 1 (.slice (some ⟨gs,0,none⟩) s.stack.length cs) s.stack.length (ints (nats s.stack));rw[Hlen.out];exact own_apart o1w hg7 (own_types o1w o3w (by decide))
       ·show Apart (.slice (some ⟨gs,0,none⟩) s.stack.length cs) _;rw[Hlen.out];exact hap
     · --left
      have hP:=eh (hpass.out (by omega));have hnn:=hE2.out;go_wp2;go_roundg (dfsMu cg ⟨s.st,s.nx.set i (m+1),s.stack,s.post⟩+1)
      case measure=>
       have:=Hmu1.out s.st s.post s.stack (by omega);omega
      case rel=>
       refine⟨⟨s.st,s.nx.set i (m+1),s.stack,s.post⟩,Ap,Ab,some ⟨gs,0,none⟩,cp,cb,cs,nb,xb,Nat.lt_succ_self _,rfl,rfl,by rw[Hlen.out],hP,by show nb+restN cg (s.nx.set i (m+1))≤_;omega,b1w,b2w,?_,o2w,o3w,?_,hbw⟩
       ·show w4.ownsRow (H+2) 3 1 (.slice (some ⟨gs,0,none⟩) s.stack.length cs) s.stack.length (ints (nats s.stack));rw[Hlen.out];exact o1w
       ·show Apart (.slice (some ⟨gs,0,none⟩) s.stack.length cs) _;rw[Hlen.out];exact hap
theorem reverse_own{base n c:Nat}{A:Option Addr}{l:List Int}{w:World}(h:w.ownsRow base 3 1 (.slice A n c) n (ints l))(hn:n≤9223372036854775807):
 Calls Tryz.prog 115 #[.slice A n c] w fun e w'=>e=.returned (.tuple #[])∧w'.ownsRow base 3 1 (.slice A n c) n (ints l.reverse)∧w.grownBy w' (Value.slice A n c).ownBlock:=by
 have hl:l.length=n:=by simpa[ints]using h.1
 by_cases h0:n=0
 ·subst h0;refine(Any.slices_Reverse_int_empty lays112 A c w).mono fun e w' ⟨he,hw⟩=>?_
  subst hw;have :l=[]:=List.eq_nil_of_length_eq_zero hl;subst this;exact⟨he,h,⟨rfl,rfl,rfl,Nat.le_refl _,fun _ _ _=>rfl⟩⟩
 ·have h':=h;rcases h'.2 with⟨hv,hn0⟩|⟨g,cap,cur,hv,hb,hh,h1,h2,h3,h4⟩
  ·omega
  ·cases hv;subst hl;have hH:=holds_of_blockI (ss:=l) hh (by rw[Nat.mul_one]at h4;exact h4);refine(Any.slices_Reverse_int lays112 g 0 c l w hH hn).mono fun e w' ⟨he,k,hw⟩=>?_
   subst hw;have e1:=ownsRow_sortedI (w:=w) (n:=k) (os:=#[]) (ss:=l) (ts:=l.reverse) (by simp) hb hh h1 h2 h3;have e2:=grownBy_sortedI (w:=w) (g:=g) (n:=k) (os:=#[]) l.reverse.toArray;rw[Sort.grow_empty]at e1 e2;exact⟨he,e1,e2⟩
theorem nodup_rev:∀l:List Nat,l.Nodup→l.reverse.Nodup
 | [],_=>by simp
 |x::l,h=>by
  obtain⟨h1,h2⟩:=List.nodup_cons.1 h;rw[List.reverse_cons,List.nodup_append];exact⟨nodup_rev l h2,by simp,fun a ha b hb e=>by
   simp at ha hb;subst hb e;exact h1 ha⟩
def OrderPost3(w:World)(g:List (List Int))(e:Ending)(w':World):Prop:=
 ∃A c l,e=.returned (.slice A l.length c)∧w'.ownsRow w.heap.size 3 1 (.slice A l.length c) l.length (ints (nats l))∧Below w.heap.size w w'∧(g.length=0→l=[])∧l.length≤g.length∧(0<g.length→(∃r,l=0::r)∧l.Nodup∧∃tp,Ordd (EI g) l (fun k=>l.idxOf k) tp)
theorem ordd_congr{E E':Nat→Nat→Prop}{l:List Nat}{pos tp:Nat→Nat}(h:∀p k,E p k↔E' p k)(O:Ordd E l pos tp):Ordd E' l pos tp:=by
 have e:E=E':=by funext p k;exact propext (h p k)
 subst e;exact O
theorem order_any(A:Option Addr)(c:Nat)(g:List (List Int))(w:World)(hr:RdL rowShape w (· <w.heap.size) A g)(hn:g.length≤100000)(hrow:∀i,i<g.length→(g.getD i []).length≤100000000):
 Calls Tryz.prog 80 #[.slice A g.length c] w (OrderPost3 w g):=by
 have hPP:∀A2 c2 (s:Dfs) w',(0<g.length→DfsInv (cleanF g) s∧s.stack=[])→(g.length=0→s.post=[])→w'.ownsRow w.heap.size 3 1 (.slice A2 s.post.length c2) s.post.length (ints (nats s.post).reverse)→Below w.heap.size w w'→OrderPost3 w g (.returned (.slice A2 s.post.length c2)) w':=fun A2 c2 s w' h1 h2 h3 h4=>by
  have e1:(nats s.post).reverse=nats s.post.reverse:=by simp[nats]
  rw[e1]at h3;refine⟨A2,c2,s.post.reverse,by simp,by simpa using h3,h4,fun h=>by simp[h2 h],?_,fun h=>?_⟩
  ·by_cases h0:g.length=0
   ·simp[h2 h0]
   ·have:=(h1 (by omega)).1.post_le;rw[cleanF_len]at this;simpa using this
  ·obtain⟨I,hs⟩:=h1 h;obtain⟨r1,r2,tp,r3⟩:=I.ordd hs;exact⟨r1,nodup_rev _ r2,tp,ordd_congr (fun p k=>eg_clean p k) r3⟩
 have HP:=eh hPP;clear hPP;generalize OrderPost3 w g=Post at*;have Hw:=eh (walk_any A c g w hr hn hrow);have hle:∀s:Dfs,(0<g.length→DfsInv (cleanF g) s∧s.stack=[])→(g.length=0→s.post=[])→s.post.length≤100000:=fun s h1 h2=>by
  by_cases h0:g.length=0
  ·simp[h2 h0]
  ·have:=(h1 (by omega)).1.post_le;rw[cleanF_len]at this;omega
 have Hle:=eh hle;clear hle hrow hr;go_enter Tryz.func80,Tryz.ntmps80;go_wp2_with fail;refine(Hw.out).mono ?_;rintro e w1 ⟨G,A2,c2,A3,n3,c3,s,rfl,h1,h2,bG,own,hb⟩;have hl:=Hle.out s h1 h2;have H1:=eh h1;have H2:=eh h2;clear h1 h2 Hw;go_wp2_with fail;refine(reverse_own own (by omega)).mono ?_;rintro e w2 ⟨rfl,own2,hg⟩;have hb2:=hb.grown hg hb.size (fun k hk=>(own.lt k hk).1);go_wp2;exact HP.out A2 c2 s _ H1.out H2.out own2 hb2
def uQ(c:List (List Nat))(i j:Nat):List (List Nat):=(List.range c.length).map (predsTo c i j)
section
variable {c:List (List Nat)}
theorem predsAt_len(i j:Nat):(uQ c i j).length=c.length:=by simp[uQ]
theorem predsAt_get{i j k:Nat}(hk:k<c.length):(uQ c i j).getD k []=predsTo c i j k:=by simp[uQ,hk]
theorem predsAt_zero:uQ c 0 0=List.replicate c.length []:=by
 unfold uQ;apply List.ext_getElem?;intro k
 by_cases hk:k<c.length
 ·simp[hk,predsTo]
 ·rw[List.getElem?_eq_none (by simp;omega),List.getElem?_eq_none (by simp;omega)]
theorem predsAt_row{i j:Nat}(hj:(c.getD i []).length≤j):uQ c i j=uQ c (i+1) 0:=by
 unfold uQ;exact List.map_congr_left fun k _=>predsTo_row hj k
theorem predsAt_step{i j q:Nat}(hn:(c.getD i []).Nodup)(hq:(c.getD i [])[j]? =some q)(hql:q<c.length):uQ c i (j+1)=(uQ c i j).set q (predsTo c i j q++[i]):=by
 apply List.ext_getElem?;intro k
 by_cases hk:k<c.length
 ·by_cases e:q=k
  ·subst e;rw[List.getElem?_set_self (by rw[predsAt_len];exact hk)];simp only[uQ,List.getElem?_map,List.getElem?_range hk,Option.map_some];rw[predsTo_step hn hq,if_pos rfl]
  ·rw[List.getElem?_set_ne e];simp only[uQ,List.getElem?_map,List.getElem?_range hk,Option.map_some];rw[predsTo_step hn hq,if_neg (fun h=>e h.symm)]
 ·rw[List.getElem?_eq_none (by rw[predsAt_len];omega),List.getElem?_eq_none (by simp[predsAt_len];omega)]
theorem predsAt_fin:uQ c c.length 0=predsF c:=by
 unfold uQ predsF;exact List.map_congr_left fun k _=>by simp[predsTo]
theorem predsTo_len(i j k:Nat):(predsTo c i j k).length≤i+1:=by
 unfold predsTo;rw[List.length_append];have h1:((List.range i).filter (fun p=>decide (k∈c.getD p []))).length≤i:=by
  have:=List.length_filter_le (fun p=>decide (k∈c.getD p [])) (List.range i);simpa using this
 split
 ·simpa using h1
 ·simpa using Nat.le_succ_of_le h1
theorem mem_predsF{g:List (List Int)}{k p:Nat}(hk:k<g.length):p∈(predsF (cleanF g)).getD k []↔p<g.length∧EI g p k:=by
 have hk':k<(cleanF g).length:=by rw[cleanF_len];exact hk
 simp only[predsF,List.getD_eq_getElem?_getD,List.getElem?_map,List.getElem?_range hk',Option.map_some,Option.getD_some,List.mem_filter,List.mem_range,decide_eq_true_eq];rw[cleanF_len,←eg_clean];unfold EG;rw[List.getD_eq_getElem?_getD]
end
theorem preds_any(A:Option Addr)(c:Nat)(g:List (List Int))(w:World)(hr:RdL rowShape w (· <w.heap.size) A g)(hn:g.length≤100000)(hrow:∀i,i<g.length→(g.getD i []).length≤100000000):
 Calls Tryz.prog 79 #[.slice A g.length c] w (MatPost w ((predsF (cleanF g)).map nats)):=by
 have hcl:=cleanF_len (g:=g);have hPP:∀hs w',Blk w' w.heap.size 38 ⟨hdrs hs ((predsF (cleanF g)).map nats)⟩→OwnMat w' (w.heap.size+1) 3 hs ((predsF (cleanF g)).map nats)→Below w.heap.size w w'→MatPost w ((predsF (cleanF g)).map nats) (.returned (.slice (some ⟨w.heap.size,0,none⟩) g.length g.length)) w':=fun hs w' h1 h2 h3=>⟨_,hs,by simp[predsF,hcl],h1,h2,Nat.le_refl _,h3⟩
 have HP:=eh hPP;clear hPP;generalize MatPost w ((predsF (cleanF g)).map nats)=Post at*;have hm1:=fun W=>run_make_row' (P:=Tryz.prog) 144 38 (.slice none 0 0) 24 Tryz.underlying144 infoSl rfl .i64 .i64 g.length (by omega) (by omega) W
 rw[made_hdrs]at hm1;have Hcl:=eh (fun W hb=>clean_any A c g W ((hr.below (B:=w.heap.size) hb (fun _ h=>h)).more (fun b h=>Nat.lt_of_lt_of_le h hb.size)) hn hrow);have hcm:∀i k,k∈(cleanF g).getD i []→k<g.length:=fun i k hk=>((eg_clean i k).1 hk).1
 have hcn:∀i,((cleanF g).getD i []).Nodup:=fun i=>by
  rw[cleanF_at];split
  ·exact cleanRow_nodup _
  ·exact List.nodup_nil
 have hcg:∀i,((cleanF g).getD i []).length≤g.length:=fun i=>by
  rw[cleanF_at];split
  ·exact cleanRow_len _
  ·simp
 generalize cleanF g=cg at*;have e0:List.replicate g.length ([]:List Int)=(uQ cg 0 0).map nats:=by rw[predsAt_zero,hcl];simp[nats]
 rw[e0]at hm1;clear hrow hr e0;have hw1:=(Below.refl w.heap.size w).alloc (Nat.le_refl _) (.cells ⟨hdrs (List.replicate g.length (none,0)) ((uQ cg 0 0).map nats)⟩ 38);have b1:=Blk.new w 38 ⟨hdrs (List.replicate g.length (none,0)) ((uQ cg 0 0).map nats)⟩;have e1:(uQ cg 0 0).map nats=List.replicate g.length []:=by rw[predsAt_zero,hcl];simp[nats]
 have hm0:=fun(W:World) b=>OwnMat.made W b 3 g.length
 rw[←e1]at hm0;have Hm0:=eh hm0;clear e1 hm0;generalize List.replicate g.length ((none:Option Addr),0)=hs0 at*;go_enter Tryz.func79,Tryz.ntmps79;go_wp2_with fail;refine(Hcl.out _ hw1).mono ?_;rintro e w1 ⟨G,hs1,rfl,bG,mG,hG,hb1⟩;have hml:(cg.map nats).length=g.length:=by simpa using hcl
 rw[hml];have hG':w.heap.size+1≤G:=by simpa using hG
 have hmat:=mG.rd bG (S:=fun b=>w.heap.size<b∧b<w1.heap.size) ⟨by omega,bG.lt⟩ (fun b h1 h2=>⟨by omega,h2⟩);have b2:=b1.below hb1 b1.lt;have hw2:=hw1.trans (hb1.mono hw1.size);have m0:=Hm0.out w1 w1.heap.size;have hz2:w.heap.size+1≤w1.heap.size:=by have:=hb1.size;simp at this;omega
 clear Hcl mG bG b1 hw1 hm1 hb1 Hm0 hG hG';go_wp2;go_loopw [14] (fun iv wr=>∃(i:Nat) (hs:List (Option Addr×Nat)),i≤g.length∧iv=.int .i64 i∧Blk wr w.heap.size 38 ⟨hdrs hs ((uQ cg i 0).map nats)⟩∧OwnMat wr w1.heap.size 3 hs ((uQ cg i 0).map nats)∧Hid (Kept (fun b=>w.heap.size<b∧b<w1.heap.size) w1 wr)∧w1.heap.size≤wr.heap.size∧Below w.heap.size w wr) (fun iv _=>g.length-(intOf iv).toNat)
 case atStart=>exact⟨0,hs0,Nat.zero_le _,rfl,b2,m0,eh (Kept.refl _ _),Nat.le_refl _,hw2⟩
 case round=>
  clear b2 m0 hw2;obtain⟨i,hs,hi,rfl,b1,m0,K,hz,hb⟩:=hrel
  by_cases hlt:i<g.length
  ·have k0:(0:Int)≤i:=by omega
   have k1:(i:Int)<g.length:=by omega
   obtain⟨bm,offm,A1,c1,e5,hbm,x0',hrd⟩:=rd_row hmat (k:=i) (by omega);injection e5 with e5
   injection e5 with e5 e6
   subst e5 e6;have hli:(cg.map nats).getD i []=nats (cg.getD i []):=by rw[List.getD_eq_getElem?_getD,map_nats_get cg (by omega)];rfl
   rw[hli]at x0' hrd;have x0:=(K.out ⟨G,0+i,none⟩ hbm).trans x0';rw[Nat.zero_add]at x0;have hst:=eh (fun j q (h1:(cg.getD i [])[j]? =some q) h2=>predsAt_step (j:=j) (hcn i) h1 h2);have hrw:=eh (fun j (h:(cg.getD i []).length≤j)=>predsAt_row h);have hmem:=hcm i;have hrl:=hcg i;have hnl:(nats (cg.getD i [])).length=(cg.getD i []).length:=nats_len _;rw[hnl]at x0;clear x0' hli;generalize cg.getD i []=row at*;go_wp2;go_loopw [21] (fun jv w2=>∃(j:Nat) (hs:List (Option Addr×Nat)),j≤row.length∧jv=.int .i64 j∧Blk w2 w.heap.size 38 ⟨hdrs hs ((uQ cg i j).map nats)⟩∧OwnMat w2 w1.heap.size 3 hs ((uQ cg i j).map nats)∧Hid (Kept (fun b=>w.heap.size<b∧b<w1.heap.size) w1 w2)∧w1.heap.size≤w2.heap.size∧Below w.heap.size w w2) (fun jv _=>row.length-(intOf jv).toNat)
   case atStart=>exact⟨0,hs,Nat.zero_le _,rfl,b1,m0,K,hz,hb⟩
   case round=>
    clear b1 m0 K hz hb x0;obtain⟨j,hs,hj,rfl,b1,m0,K,hz,hb⟩:=hrel
    by_cases hjl:j<row.length
    ·have j0:(0:Int)≤j:=by omega
     have j1:(j:Int)<row.length:=by omega
     obtain⟨q,hq⟩:∃q,row[j]? =some q:=⟨_,List.getElem?_eq_getElem hjl⟩;have hql:q<g.length:=hmem q (List.mem_of_getElem? hq);obtain⟨br,orr,rfl,hbr,y0⟩:=uX ((hrd.keep K.out).rd (B:=w1.heap.size) (fun b h=>h.2)) (k:=j) (by rw[hnl];exact hjl);have hqv:(nats row)[j]?.getD 0=(q:Int):=by simp[nats,hq]
     rw[hqv]at y0;have q0:(0:Int)≤q:=by omega
     have q1:(q:Int)<g.length:=by omega
     have Hst:=eh (hst.out j q hq (by omega));have hpl:(uQ cg i j).length=cg.length:=predsAt_len _ _;have hqp:q<(uQ cg i j).length:=by omega
     have hget:=map_nats_get (uQ cg i j) hqp;rw[predsAt_get (by omega)]at hget;have hln:=predsTo_len (c:=cg) i j q;obtain⟨A2,c2,hh1,hh2,hown⟩:=m0.get (k:=q) (by simpa using hqp);rw[show((uQ cg i j).map nats).getD q []=nats (predsTo cg i j q) by rw[List.getD_eq_getElem?_getD,hget];rfl]at hown;have hmap:((uQ cg i j).set q (predsTo cg i j q++[i])).map nats=((uQ cg i j).map nats).set q (nats (predsTo cg i j q)++[(i:Int)]):=by rw[List.map_set,nats_snoc]
     have Hmap:=eh hmap;have hla:(nats (predsTo cg i j q)).length≤100001:=by rw[nats_len];omega
     have hlm:q<((uQ cg i j).map nats).length:=by simpa using hqp
     clear hh2 hq hqv hmap hpl hqp hln;generalize nats (predsTo cg i j q)=la at*;generalize(uQ cg i j).map nats=lm at*;have y2:wr.cell? ⟨w.heap.size,q,none⟩=some (.slice A2 la.length c2):=hdrs_cell b1 hh1 hget;have hl1:=b1.lt;go_wp2_with (at_builtin
                                                                                                                                                                                                                                               refine wpList_append_row rfl (.tmp 30) (.tmp 32) 38 rfl w1.heap.size 3 _ 1 8 Tryz.underlying38 infoIntR rfl (by omega) A2 c2 la.length (ints la) rfl (hown.alloc _) wr.heap.size 1 1 3 [.int .i64 (i:Int)] rfl (Blk.new _ _ _) rfl (by intro u hu;simp at hu;subst hu;rfl) (by unfold maxLen;omega) (by omega) (by simp;omega) ?_;intro A3 c3 w3 hown3 hg3 hat3;have b1'':=(b1.alloc _).grown hg3 (fun e=>uF (g:=w.heap.size) (by omega) hown e.symm);have y4:=hdrs_cell b1'' hh1 hget;have f4:=b1''.frozen q)
     go_roundw
     case rel=>exact⟨j+1,hs.set q (A3,c3),by omega,by go_num,by rw[Hst.out,Hmap.out];exact hdrs_blk_put b1'' q A3 c3 (by simp),by
      rw[Hst.out,Hmap.out];exact((m0.alloc _).grown hh1 hlm hown3 (by simp) (by simp[ints]) hg3 hat3).far (uA _ _ _) (by show w.heap.size<w1.heap.size;omega),eh (Kept.set (Kept.grown (Kept.alloc K.out (fun b h=>by omega) _) hg3 (fun b h=>by simp;omega) (fun b h e=>by have:=(hown.lt b e.symm).1;omega)) (by show¬(w.heap.size<w.heap.size∧_);omega) _),by have:=hg3.size;simp at this⊢;omega,((hb.alloc hb.size _).grown hg3 (by simp;omega) (fun k hk=>by have:=(hown.lt k hk).1;omega)).setCell (Nat.le_refl _) _⟩
     case measure=>simp[intOf];omega
    ·have e:row.length≤j:=by omega
     have hge:¬(j:Int)<row.length:=by omega
     rw[hrw.out j e]at b1 m0;clear hjl e;go_wp2;go_roundw
     case rel=>exact⟨i+1,hs,by omega,by go_num,b1,m0,K,hz,hb⟩
     case measure=>simp[intOf];omega
  ·have e:i=cg.length:=by omega
   have hge:¬(i:Int)<g.length:=by omega
   rw[e,predsAt_fin]at b1 m0;clear e hlt;go_wp2;exact HP.out _ _ b1 (m0.lower (by omega)) hb
end Go.Proofs.YtgbgbmdiomhfiaaGreatDoor