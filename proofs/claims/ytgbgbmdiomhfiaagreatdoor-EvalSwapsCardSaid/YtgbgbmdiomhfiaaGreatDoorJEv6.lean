/-
 Ev5, Ev6, EsLaw, EsRun, Mk17.
-/
import Derived.BigRegion
import Derived.Test.YtgbgbmdiomhfiaaGreatDoorJSs3
import Derived.Test.YtgbgbmdiomhfiaaGreatDoorJEv4
import Derived.Test.YtgbgbmdiomhfiaaGreatDoorJSsCs
import Derived.Test.YtgbgbmdiomhfiaaGreatDoorJMk
import Derived.Test.YtgbgbmdiomhfiaaGreatDoorJLightB
set_option linter.unusedSimpArgs false
set_option linter.unusedVariables false
set_option maxHeartbeats 16000000
set_option maxRecDepth 100000
namespace Go.Proofs.YtgbgbmdiomhfiaaGreatDoor
open Go.RowKit Go.Maps
def nx(x:RX):RX:={x with nds:=x.nds+1}
inductive BodyRun(f:Fn)(bk:Bk):List Int→OnV→RX→List AV→RX→List AV→OnV→Prop
 |nil {o:OnV} {x:RX} {v:List AV}:BodyRun f bk [] o x v x v o
 |over {n:Int} {r:List Int} {o:OnV} {x:RX} {v:List AV} (h0:0≤n) (hb:0≤x.nds∧x.nds+1≤4194304) (hn:NdIn f bk (nx x) n.toNat) (ho:(nodeF f bk (nx x) v n.toNat).2.2.over=true):BodyRun f bk (n::r) o x v (nodeF f bk (nx x) v n.toNat).1 (nodeF f bk (nx x) v n.toNat).2.1 (nodeF f bk (nx x) v n.toNat).2.2
 |next {n:Int} {r:List Int} {o o':OnV} {x x':RX} {v v':List AV} (h0:0≤n) (hb:0≤x.nds∧x.nds+1≤4194304) (hn:NdIn f bk (nx x) n.toNat) (ho:(nodeF f bk (nx x) v n.toNat).2.2.over=false) (h:BodyRun f bk r (nodeF f bk (nx x) v n.toNat).2.2 (nodeF f bk (nx x) v n.toNat).1 (nodeF f bk (nx x) v n.toNat).2.1 x' v' o'):BodyRun f bk (n::r) o x v x' v' o'
def phiG(f:Fn)(v:List AV)(k:Nat)(l:List Int):List AV:=l.map fun n=>v.getD ((ndAt f n.toNat).args.getD k 0).toNat default
def phiP(v:List AV):List Int→List AV→List AV
 |n::l,a::g=>phiP (v.set n.toNat a) l g
 |_,_=>v
structure PhiIn(f:Fn)(bk:Bk)(k:Nat)(x:RX):Prop where
 n:∀n∈bk.phis,0≤n∧n<f.nodes.length
 a:∀n∈bk.phis,k<(ndAt f n.toNat).args.length∧0≤(ndAt f n.toNat).args.getD k 0∧(ndAt f n.toNat).args.getD k 0<f.nodes.length
 few:bk.phis.length≤1000
 rng:0≤x.nds∧x.nds≤10000000
def phiV(f:Fn)(bk:Bk)(last:Int)(v:List AV):List AV:=phiP v bk.phis (phiG f v (bk.preds.idxOf last) bk.phis)
def phiX(bk:Bk)(x:RX):RX:={x with nds:=x.nds+bk.phis.length}
def PhiOk(f:Fn)(bk:Bk)(last:Int)(x:RX):Prop:=bk.phis≠[]→last∈bk.preds∧PhiIn f bk (bk.preds.idxOf last) x
structure BkIn(f:Fn)(bk:Bk):Prop where
 body:bk.body.length≤4000
 preds:bk.preds.length≤4000
inductive FunRun(f:Fn):Nat→Int→Nat→RX→List AV→RX→AV→Bool→Prop
 |done {last:Int} {now:Nat} {x x':RX} {v v':List AV} {o:OnV} (hb:now<f.blocks.length) (hi:BkIn f (bkAt f now)) (hp:PhiOk f (bkAt f now) last x) (h:BodyRun f (bkAt f now) (bkAt f now).body {blk:= -1} (phiX (bkAt f now) x) (phiV f (bkAt f now) last v) x' v' o) (ho:o.over=true):FunRun f 0 last now x v x' o.val o.is
 |on {m:Nat} {last:Int} {now:Nat} {x x' x2:RX} {v v':List AV} {o:OnV} {a:AV} {b:Bool} (hb:now<f.blocks.length) (hi:BkIn f (bkAt f now)) (hp:PhiOk f (bkAt f now) last x) (h:BodyRun f (bkAt f now) (bkAt f now).body {blk:= -1} (phiX (bkAt f now) x) (phiV f (bkAt f now) last v) x' v' o) (ho:o.over=false) (h0:0≤o.blk) (hr:FunRun f m now o.blk.toNat x' v' x2 a b):FunRun f (m+1) last now x v x2 a b
theorem phiP_snoc:∀(l:List Int) (g v:List AV) (n:Int) (a:AV),l.length=g.length→phiP v (l++[n]) (g++[a])=(phiP v l g).set n.toNat a
 | [],[],v,n,a,_=>by simp[phiP]
 |_::_,[],_,_,_,h=>by simp at h
 | [],_::_,_,_,_,h=>by simp at h
 |m::l,b::g,v,n,a,h=>by
  simp only[List.cons_append,phiP];exact phiP_snoc l g _ n a (by simpa using h)
theorem idx_first{l:List Int}{x:Int}{k:Nat}(hk:l[k]? =some x)(hn:∀j,j<k→l[j]?.getD 0≠x):l.idxOf x=k:=by
 induction l generalizing k with
 |nil=>simp at hk
 |cons a l ih=>
  cases k with
  |zero=>simp at hk;subst hk;simp
  |succ k=>
   have h0:=hn 0 (by omega);simp at h0;rw[List.idxOf_cons];have hb:(a==x)=false:=by simpa using h0
   rw[hb];simp only[cond_false];rw[ih (by simpa using hk) (fun j hj=>by have:=hn (j+1) (by omega);simpa using this)]
theorem index_first(w:World){B:Nat}{A:Option Addr}{n c:Nat}{l:List Int}(hr:Rd w B 1 A n (ints l))(hn:n≤1000000){x:Int}(hx:x∈l):
 Calls Tryz.prog 56 #[.slice A n c,.int .i64 x] w fun e w'=>e=.returned (.int .i64 (l.idxOf x:Nat))∧w'=w:=by
 have hll:l.length=n:=by simpa[ints]using hr.1
 have Hll:=eh hll;have Hx:=eh hx;clear hll hx;go_enter Tryz.func56,Tryz.ntmps56;go_wp2;go_loop [8] (fun i=>∃k:Nat,k≤n∧i=.int .i64 k∧∀j,j<k→l[j]?.getD 0≠x) (fun i=>n-(intOf i).toNat)
 case atStart=>exact⟨0,Nat.zero_le _,rfl,fun j hj=>by omega⟩
 case round=>
  obtain⟨k,hk,rfl,hno⟩:=hrel;have Hno:=eh hno;clear hno
  by_cases hlt:k<n
  ·obtain⟨b,off,rfl,hbl,c1⟩:=uX hr hlt;have k0:(0:Int)≤k:=by omega
   have k1:(k:Int)<n:=by omega
   go_wp2
   ·have e:x=l[k]?.getD 0:=by simpa using(show(x==l[k]?.getD 0)=true by assumption)
    go_ret;have hk2:k<l.length:=by rw[Hll.out];exact hlt
    have hI:=idx_first (l:=l) (x:=x) (k:=k) (by rw[List.getElem?_eq_getElem hk2]at e⊢;rw[e];rfl) Hno.out;exact⟨by rw[hI];rfl,rfl⟩
   ·have e:¬x=l[k]?.getD 0:=by simpa using(show(x==l[k]?.getD 0)=false by assumption)
    go_round
    case rel=>exact⟨k+1,by omega,by go_num,fun j hj=>by
     by_cases h:j=k
     ·subst h;exact fun e'=>e e'.symm
     ·exact Hno.out j (by omega)⟩
    case measure=>simp[intOf];omega
  ·exfalso
   obtain⟨j,hj,e⟩:=List.getElem_of_mem Hx.out;have h1:=Hno.out j (by rw[Hll.out]at hj;omega);rw[List.getElem?_eq_getElem hj]at h1;exact h1 e
structure FunIn(w:World)(S:Nat→Prop)(gr gs gdn:Nat)(k:RC)(x:RX)(f:Fn)(An Ab As:Option Addr):Prop where
 r:RAt w gr k x
 st:k.st=.pointer (some ⟨gs,0,none⟩)
 dn:k.dn=.map (some gdn)
 map:VMap Tryz.prog w 3 gdn 0 (fun _=>none)
 fn:RdF w S An Ab As f
 lt:∀q,S q→q<w.heap.size∧q≠gr
 nds:f.nodes.length≤4000
def FunPost(w:World)(gr:Nat)(k:RC)(x:RX)(a:AV)(b:Bool)(e:Ending)(w':World):Prop:=e=.returned (.tuple #[avv a,.bool b])∧RAt w' gr k x∧w.grownBy w' (some gr)
theorem made_av(n:Nat):madeCells #[.bool false,.int .i64 0] (n*2)=⟨vcs (List.replicate n (false,0))⟩:=by
 unfold madeCells;apply Array.ext
 ·simp[vcs_len]
 ·intro i h1 h2;have hl:i<n*2:=by simpa using h1
  have hv:=vcs_at (List.replicate n ((false,(0:Int)):AV)) (i/2) (by simp;omega);have hd:(List.replicate n ((false,(0:Int)):AV)).getD (i/2) default=(false,0):=by rw[List.getD_eq_getElem?_getD,List.getElem?_replicate,if_pos (by omega)];rfl
  rw[hd]at hv;rcases Nat.mod_two_eq_zero_or_one i with e|e
  ·have e2:i/2*2=i:=by omega
   rw[e2]at hv;have h3:=hv.1;rw[List.getElem?_eq_getElem (by rw[vcs_len];simpa using hl)]at h3;have h4:=Option.some.inj h3;simp only[List.getElem_toArray];rw[h4];simp[e]
  ·have e2:i/2*2+1=i:=by omega
   have h3:=hv.2;rw[e2,List.getElem?_eq_getElem (by rw[vcs_len];simpa using hl)]at h3;have h4:=Option.some.inj h3;simp only[List.getElem_toArray];rw[h4];simp[e]
theorem function_any{w:World}{S:Nat→Prop}{gr gs gdn:Nat}{k:RC}{x x':RX}{f:Fn}{An Ab As:Option Addr}(h:FunIn w S gr gs gdn k x f An Ab As)(cn cb cs:Nat)(Aa:Option Addr)(na ca:Nat){m:Nat}{a:AV}{b:Bool}(hr:FunRun f m (-1) 0 x (List.replicate f.nodes.length (false,0)) x' a b):
 Calls Tryz.prog 27 #[.pointer (some ⟨gr,0,none⟩),fv An Ab As cn cb cs f,.slice Aa na ca] w (FunPost w gr k x' a b):=by
 have hn4:=h.nds;have hmk:∀W:World,(Instr.makeSlice 119 (.int .i64 f.nodes.length) (.int .i64 f.nodes.length)).run Tryz.prog W=.ok (.slice (some ⟨W.heap.size,0,none⟩) f.nodes.length f.nodes.length) (W.alloc (.cells ⟨vcs (List.replicate f.nodes.length (false,0))⟩ 83)):=by
  intro W;obtain⟨ii,hi1,hi2,hi3,hi4⟩:=info_parts infoAv;have hh:=run_make (P:=Tryz.prog) (w:=W) 119 83 ii (.agg #[.bool false,.int .i64 0]) Tryz.underlying119 hi1 hi2 .i64 .i64 (f.nodes.length:Int) (f.nodes.length:Int) (by omega) (by omega) (by rw[hi4];omega) (by omega);rw[Int.toNat_natCast,hi3]at hh;rw[←made_av];exact hh
 have HP:=eh (fun w' (h1:RAt w' gr k x') (h2:w.grownBy w' (some gr))=>(show FunPost w gr k x' a b (.returned (.tuple #[avv a,.bool b])) w' from⟨rfl,h1,h2⟩));generalize FunPost w gr k x' a b=Post at*;have HI:=eh h;have HRun:=eh hr;have bF:=(Blk.new w 50 #[.int .i64 f.mth,.int .i64 f.entry,.slice An f.nodes.length cn,.slice Ab f.blocks.length cb,.slice As f.states.length cs]).alloc (.cells #[.bool false,.int .i64 0] 83);have bZ:=Blk.newAt (w:=w.alloc (.cells #[.int .i64 f.mth,.int .i64 f.entry,.slice An f.nodes.length cn,.slice Ab f.blocks.length cb,.slice As f.states.length cs] 50)) (g:=w.heap.size+1) (by simp) 83 #[.bool false,.int .i64 0];have hb1:=((Below.refl w.heap.size w).alloc (Nat.le_refl _) (.cells #[.int .i64 f.mth,.int .i64 f.entry,.slice An f.nodes.length cn,.slice Ab f.blocks.length cb,.slice As f.states.length cs] 50)).alloc (by simp) (.cells #[.bool false,.int .i64 0] 83);clear h hr;go_enter Tryz.func27,Tryz.ntmps27;go_upto_region 1 with(fail);generalize(w.alloc (.cells #[.int .i64 f.mth,.int .i64 f.entry,.slice An f.nodes.length cn,.slice Ab f.blocks.length cb,.slice As f.states.length cs] 50)).alloc (.cells #[.bool false,.int .i64 0] 83)=w1 at*;obtain⟨gF,hgF⟩:∃gF,gF=w.heap.size:=⟨_,rfl⟩;obtain⟨gz,hgz⟩:∃gz,gz=w.heap.size+1:=⟨_,rfl⟩;rw[←hgz]at bZ⊢;rw[←hgF]at bF⊢;have hwF:w.heap.size≤gF:=by omega
 have hwz:w.heap.size≤gz:=by omega
 clear hgF hgz;refine uE (S:=fun W=>W.cell? ⟨gF,0,none⟩=some (.int .i64 f.mth)∧W.cell? ⟨gF,1,none⟩=some (.int .i64 f.entry)∧W.cell? ⟨gF,2,none⟩=some (.slice An f.nodes.length cn)∧W.cell? ⟨gF,3,none⟩=some (.slice Ab f.blocks.length cb)∧W.cell? ⟨gF,4,none⟩=some (.slice As f.states.length cs)) (fun _=>true) (by kernel_rfl) ⟨bF.at0,bF.at1,bF.at2,bF.at3,bF.cell 4⟩ (fun HS=>?_);have bFd:=bF.drew;have bZd:=bZ.drew;have hbd:=hb1.drew;have hsz:w.heap.size≤w1.drew.heap.size:=hb1.size;clear bF bZ hb1;generalize w1.drew=wd at*
 iterate 5 (refine uO rfl rfl HS (.inl ⟨rfl,fun W hW=>by obtain⟨h0,h1,h2,h3,h4⟩:=hW;go_simp;rfl⟩) ?_;simp only[pS])
 refine uP rfl rfl (fun K HK=>?_);go_simp;have bF2:=bFd.alloc (.cells ⟨vcs (List.replicate f.nodes.length (false,0))⟩ 83);have bZ2:=bZd.alloc (.cells ⟨vcs (List.replicate f.nodes.length (false,0))⟩ 83);have bV2:=Blk.new wd 83 ⟨vcs (List.replicate f.nodes.length (false,0))⟩;have hb2:=hbd.alloc hsz (.cells ⟨vcs (List.replicate f.nodes.length (false,0))⟩ 83);refine HK.out _ _ (fun _=>⟨bF2.at0,bF2.at1,bF2.at2,bF2.at3,bF2.cell 4⟩) ?_;clear HK HS hmk;obtain⟨gvl,hgvl⟩:∃gvl,gvl=wd.heap.size:=⟨_,rfl⟩;rw[←hgvl]at bV2⊢;have hwv:w.heap.size≤gvl:=by omega
 have hvz:gz≠gvl:=by have:=bZd.lt;omega
 clear hgvl;generalize wd.alloc (.cells ⟨vcs (List.replicate f.nodes.length (false,0))⟩ 83)=w2 at*;have HS:w2.cell? ⟨gF,0,none⟩=some (.int .i64 f.mth)∧w2.cell? ⟨gF,1,none⟩=some (.int .i64 f.entry)∧w2.cell? ⟨gF,2,none⟩=some (.slice An f.nodes.length cn)∧w2.cell? ⟨gF,3,none⟩=some (.slice Ab f.blocks.length cb)∧w2.cell? ⟨gF,4,none⟩=some (.slice As f.states.length cs):=⟨bF2.at0,bF2.at1,bF2.at2,bF2.at3,bF2.cell 4⟩;try simp only[pS]
 refine uO rfl rfl HS (.inl ⟨rfl,fun W hW=>by obtain⟨h0,h1,h2,h3,h4⟩:=hW;go_simp;rfl⟩) ?_;try simp only[pS]
 refine uP rfl rfl (fun K HK=>?_);go_simp;obtain⟨bc,hbc⟩:∃bc:BC,bc=⟨An,cn,Ab,cb,As,cs,.slice Aa na ca,gvl⟩:=⟨_,rfl⟩;have bB3:Blk (w2.alloc (.cells (bcs f ⟨An,cn,Ab,cb,As,cs,.slice Aa na ca,gvl⟩) 159)) w2.heap.size 159 (bcs f ⟨An,cn,Ab,cb,As,cs,.slice Aa na ca,gvl⟩):=Blk.new w2 _ _;have bF3:=bF2.alloc (.cells (bcs f ⟨An,cn,Ab,cb,As,cs,.slice Aa na ca,gvl⟩) 159);have bZ3:=bZ2.alloc (.cells (bcs f ⟨An,cn,Ab,cb,As,cs,.slice Aa na ca,gvl⟩) 159);have bV3:=bV2.alloc (.cells (bcs f ⟨An,cn,Ab,cb,As,cs,.slice Aa na ca,gvl⟩) 159);have hb3:=hb2.alloc hb2.size (.cells (bcs f ⟨An,cn,Ab,cb,As,cs,.slice Aa na ca,gvl⟩) 159);refine HK.out _ _ (fun _=>⟨bF3.at0,bF3.at1,bF3.at2,bF3.at3,bF3.cell 4⟩) ?_;clear HK HS;obtain⟨gb,hgb⟩:∃gb,gb=w2.heap.size:=⟨_,rfl⟩;rw[←hgb]at bB3⊢;have hwb:w.heap.size≤gb:=by have:=hb2.size;omega
 clear hgb;generalize w2.alloc (.cells (bcs f ⟨An,cn,Ab,cb,As,cs,.slice Aa na ca,gvl⟩) 159)=w3 at*;try simp only[pS]
 refine uO (S:=fun W=>W.cell? ⟨gF,0,none⟩=some (.int .i64 f.mth)∧W.cell? ⟨gF,1,none⟩=some (.int .i64 f.entry)∧W.cell? ⟨gF,2,none⟩=some (.slice An f.nodes.length cn)∧W.cell? ⟨gF,3,none⟩=some (.slice Ab f.blocks.length cb)∧W.cell? ⟨gF,4,none⟩=some (.slice As f.states.length cs)) rfl rfl ⟨bF3.at0,bF3.at1,bF3.at2,bF3.at3,bF3.cell 4⟩ (.inl ⟨rfl,fun W hW=>by obtain⟨h0,h1,h2,h3,h4⟩:=hW;go_simp;rfl⟩) ?_;try simp only[pS]
 refine uD (by kernel_rfl) ?_ _;have hE:EvAt w3 S gr gs gdn gb k x f bc (List.replicate f.nodes.length (false,0)):=by
  subst hbc;exact⟨HI.out.r.below hb3 HI.out.r.lt,HI.out.st,HI.out.dn,HI.out.map.below hb3 HI.out.map.lt,bB3,bV3,by simp,HI.out.fn.keep (Kept.of_below hb3 (fun q hq=>(HI.out.lt q hq).1)),fun q hq=>⟨Nat.lt_of_lt_of_le (HI.out.lt q hq).1 hb3.size,(HI.out.lt q hq).2,fun e=>by have:=(HI.out.lt q hq).1;have e2:q=gvl:=e;omega⟩⟩
 have Hbc:=eh hbc;have HE:=eh hE;have HF:=eh bF3;have HZ:=eh bZ3;have HB:=eh hb3;clear bFd bZd hbd hsz bF2 bZ2 bV2 hb2 bB3 bF3 bZ3 bV3 hb3 hE hbc hn4;go_wp2;go_loopg [9,10] (m+1) (fun n lv nv wr=>∃(m1:Nat) (last:Int) (now:Nat) (x1:RX) (v1:List AV) (zc:AV),m1<n∧lv=.int .i64 last∧nv=.int .i64 now∧Hid (FunRun f m1 last now x1 v1 x' a b)∧Hid (EvAt wr S gr gs gdn gb k x1 f bc v1)∧Hid (Blk wr gF 50 #[.int .i64 f.mth,.int .i64 f.entry,.slice An f.nodes.length cn,.slice Ab f.blocks.length cb,.slice As f.states.length cs])∧Hid (Blk wr gz 83 #[.bool zc.1,.int .i64 zc.2])∧Hid (KX (fun q=>q=gr∨q=gvl) w wr))
 case atStart=>exact⟨m,-1,0,x,_,(false,0),Nat.lt_succ_self _,rfl,rfl,HRun,HE,HF,HZ,eh (KX.of_below HB.out (Nat.le_refl _))⟩
 case round=>
  clear HRun HE HF HZ HB;obtain⟨m1,last,now,x1,v1,zc,hm,rfl,rfl,HRn,HE,HF,HZ,HK⟩:=hrel;have hc:∃x2 v2 o,now<f.blocks.length∧BkIn f (bkAt f now)∧PhiOk f (bkAt f now) last x1∧BodyRun f (bkAt f now) (bkAt f now).body {blk:= -1} (phiX (bkAt f now) x1) (phiV f (bkAt f now) last v1) x2 v2 o∧((o.over=true∧x2=x'∧o.val=a∧o.is=b)∨(o.over=false∧0≤o.blk∧∃m2,m2<m1∧FunRun f m2 now o.blk.toNat x2 v2 x' a b)):=by
   cases HRn.out with
   |done h1 h2 h3 h4 h5=>exact⟨_,_,_,h1,h2,h3,h4,.inl ⟨h5,rfl,rfl,rfl⟩⟩
   |on h1 h2 h3 h4 h5 h6 h7=>exact⟨_,_,_,h1,h2,h3,h4,.inr ⟨h5,h6,_,Nat.lt_succ_self _,h7⟩⟩
  obtain⟨x2,v2,o2,hnow,hbi,hph,hbr,hlast⟩:=hc;have hfn:RdF wr S An Ab As f:=by have:=HE.out.fn;rw[Hbc.out]at this;exact this
  obtain⟨bb,ob,A1,c1,A2,c2,A3,c3,A4,c4,hA,hSb,u0,u1,u2,u3,r1,r2,r3,r4⟩:=rd_bk hfn.blocks hnow;subst hA;have q3:wr.cell? ⟨gF,3,none⟩=some (.slice (some ⟨bb,ob,none⟩) f.blocks.length cb):=HF.out.at3;have lF:=HF.out.lt;have lbb:=(HE.out.lt bb hSb).1;have i1:(now:Int)<f.blocks.length:=by omega
  obtain⟨bk,hbk⟩:∃bk,bk=f.blocks.getD now default:=⟨_,rfl⟩;rw[←hbk]at u0 u1 u2 u3 r1 r2 r3 r4;unfold bkAt at hbi hph hbr;rw[←hbk]at hbi hph hbr;have HR1:=eh r1;have HR2:=eh r2;have HR3:=eh r3;have HR4:=eh r4;have HBi:=eh hbi;have HPh:=eh hph;have HBr:=eh hbr;have HLa:=eh hlast;have bK:=Blk.new wr 43 #[.slice A1 bk.phis.length c1,.slice A2 bk.body.length c2,.slice A3 bk.succ.length c3,.slice A4 bk.preds.length c4];have hb4:=(Below.refl wr.heap.size wr).alloc (Nat.le_refl _) (.cells #[.slice A1 bk.phis.length c1,.slice A2 bk.body.length c2,.slice A3 bk.succ.length c3,.slice A4 bk.preds.length c4] 43);clear r1 r2 r3 r4 hbi hph hbr hlast hfn hbk HRn;go_upto_region 4 with(fail);obtain⟨gk,hgk⟩:∃gk,gk=wr.heap.size:=⟨_,rfl⟩;rw[←hgk]at bK⊢;have hwk:w.heap.size≤gk:=by have:=HK.out.size;omega
  clear hgk u0 u1 u2 u3 q3 lF lbb;generalize wr.alloc (.cells #[.slice A1 bk.phis.length c1,.slice A2 bk.body.length c2,.slice A3 bk.succ.length c3,.slice A4 bk.preds.length c4] 43)=w4 at*;have HE4:=eh (HE.out.below hb4);have HF4:=eh (HF.out.below hb4 HF.out.lt);have HZ4:=eh (HZ.out.below hb4 HZ.out.lt);have HK4:=eh (HK.out.trans (KX.of_below (X:=fun q=>q=gr∨q=gvl) hb4 (Nat.le_refl _)));have HSl:=eh (fun q (hq:S q)=>(HE.out.lt q hq).1);have HR1':=eh (HR1.out.keep (Kept.of_below hb4 HSl.out));have HR2':=eh (HR2.out.keep (Kept.of_below hb4 HSl.out));have HR3':=eh (HR3.out.keep (Kept.of_below hb4 HSl.out));have HR4':=eh (HR4.out.keep (Kept.of_below hb4 HSl.out));have HBK:=eh bK;have k0:=bK.at0;have lK:=bK.lt;have Hgv:=eh (show bc.gvl=gvl by rw[Hbc.out]);clear HE HF HZ HK HR1 HR2 HR3 HR4 hb4 bK HSl;go_upto_if 37 with(fail);obtain⟨pb,hpb⟩:∃pb,pb=decide (0<bk.phis.length):=⟨_,rfl⟩;rw[←hpb];have Hpb:=eh hpb;clear hpb;go_cut [12,13,15,16,17]from 38 to 98 (fun _ _ _ _ _ wx=>Hid (EvAt wx S gr gs gdn gb k (phiX bk x1) f bc (phiV f bk last v1))∧Hid (Blk wx gF 50 #[.int .i64 f.mth,.int .i64 f.entry,.slice An f.nodes.length cn,.slice (some ⟨bb,ob,none⟩) f.blocks.length cb,.slice As f.states.length cs])∧Hid (Blk wx gz 83 #[.bool zc.1,.int .i64 zc.2])∧Hid (KX (fun q=>q=gr∨q=gvl) w wx)∧Hid (KX (fun q=>q=gr∨q=gvl) w4 wx))
  case first=>
   cases pb
   ·have hp0:bk.phis=[]:=List.eq_nil_of_length_eq_zero (by have:=of_decide_eq_false Hpb.out.symm;omega);have hpl:bk.phis.length=0:=by rw[hp0];rfl
    have e1:phiX bk x1=x1:=by unfold phiX;rw[hpl];cases x1;simp
    have e2:phiV f bk last v1=v1:=by unfold phiV;rw[hp0];simp[phiP]
    have HE5:=eh (show EvAt w4 S gr gs gdn gb k (phiX bk x1) f bc (phiV f bk last v1) by rw[e1,e2];exact HE4.out);have HKr:=eh (KX.refl (fun q=>q=gr∨q=gvl) w4);clear hp0 hpl e1 e2;go_wp2;go_meet;exact⟨HE5,HF4,HZ4,HK4,HKr⟩
   ·have hpl:0<bk.phis.length:=of_decide_eq_true Hpb.out.symm;have hp0:bk.phis≠[]:=by
     intro h;rw[h]at hpl;simp at hpl
    obtain⟨hmem,hphi⟩:=HPh.out hp0;obtain⟨kk,hkk⟩:∃kk,kk=bk.preds.idxOf last:=⟨_,rfl⟩;have Hkk:=eh hkk;have HIx:=eh (index_first w4 (HR4'.out.rd (B:=w4.heap.size) (fun q hq=>(HE4.out.lt q hq).1)) (by have:=HBi.out.preds;omega) hmem (c:=c4));rw[←hkk]at hphi HIx;have HPi:=eh hphi;have k3:=HBK.out.at3;have Hpl:=eh hpl;have hfew:=hphi.few;clear hp0 hmem hphi hkk;go_wp2_with fail;refine HIx.out.mono ?_;rintro e w5 ⟨rfl,hw5⟩;subst hw5;clear k3 HIx hpl;obtain⟨base,hbase⟩:∃base,base=w5.heap.size:=⟨_,rfl⟩;have Hbase:=eh hbase;clear hbase;go_wp2;clear k0 lK;go_loopw [45,13] (fun iv lv wx=>∃(j:Nat) (A:Option Addr) (c:Nat),j≤bk.phis.length∧iv=.int .i64 j∧lv=.slice A j c∧wx.ownsRow base 83 2 (.slice A j c) j (vcs (phiG f v1 kk (bk.phis.take j)))∧Hid (Below w5.heap.size w5 wx)) (fun iv _ _=>bk.phis.length-(intOf iv).toNat)
    case atStart=>exact⟨0,none,0,Nat.zero_le _,rfl,rfl,⟨rfl,.inl ⟨rfl,rfl⟩⟩,eh (Below.refl _ _)⟩
    case round=>
     obtain⟨j,A,c,hj,rfl,rfl,hown,Hb⟩:=hrel
     by_cases hjl:j<bk.phis.length
     ·have hE:=HE4.out.below Hb.out;have hr1:=HR1'.out.keep (Kept.of_below Hb.out (fun q hq=>(HE4.out.lt q hq).1));obtain⟨bp,op_,rfl,hbp,z0⟩:=uX (hr1.rd (B:=wr.heap.size) (fun q hq=>(hE.lt q hq).1)) hjl;have hgd:bk.phis[j]?.getD 0=bk.phis.getD j 0:=by rw[List.getD_eq_getElem?_getD]
      rw[hgd]at z0;have hmem:bk.phis.getD j 0∈bk.phis:=by rw[List.getD_eq_getElem?_getD,List.getElem?_eq_getElem hjl];exact List.getElem_mem hjl
      have hn:=HPi.out.n _ hmem;have ha:=HPi.out.a _ hmem;obtain⟨n,hnn⟩:∃n:Nat,bk.phis.getD j 0=n:=⟨_,(Int.toNat_of_nonneg hn.1).symm⟩;have hnl:n<f.nodes.length:=by omega
      rw[hnn]at z0 ha;rw[Int.toNat_natCast]at ha;obtain⟨an,han⟩:∃an:Nat,(ndAt f n).args.getD kk 0=an:=⟨_,(Int.toNat_of_nonneg ha.2.1).symm⟩;have hal:an<f.nodes.length:=by have:=ha.2.2;omega
      have hfn:RdF wr S An (some ⟨bb,ob,none⟩) As f:=by have:=hE.fn;rw[Hbc.out]at this;exact this
      obtain⟨bn,on_,N1,e1,hA9,hSn,-,-,-,-,-,-,n6,rr⟩:=rd_nd hfn.nodes hnl;unfold ndAt at han ha;obtain⟨nl,hnl2⟩:∃nl,nl=(f.nodes.getD n default).args:=⟨_,rfl⟩;rw[←hnl2]at n6 rr han ha;obtain⟨ba,oa,hA10,hba,y0⟩:=uX (rr.rd (B:=w5.heap.size) (fun q hq=>(HE4.out.lt q hq).1)) (k:=kk) ha.1;have HL5:=eh (show gb<w5.heap.size∧gF<w5.heap.size∧gvl<w5.heap.size∧bn<w5.heap.size∧ba<w5.heap.size from⟨HE4.out.bd.lt,HF4.out.lt,by have:=HE4.out.v.lt;rw[Hgv.out]at this;exact this,(HE4.out.lt bn hSn).1,hba⟩);have hgd2:nl[kk]?.getD 0=(an:Int):=by rw[←List.getD_eq_getElem?_getD];exact han
      rw[hgd2]at y0;subst hA9 hA10;have b6:wr.cell? ⟨gb,6,none⟩=some (.slice (some ⟨gvl,0,none⟩) f.nodes.length f.nodes.length):=by rw[←Hgv.out];exact hE.bd.cell 6
      obtain⟨r0,r1⟩:=vrow_at hE.v (k:=an) (by rw[hE.len];exact hal);rw[Hgv.out]at r0 r1;have q2:wr.cell? ⟨gF,2,none⟩=some (.slice (some ⟨bn,on_,none⟩) f.nodes.length cn):=(HF4.out.below Hb.out HF4.out.lt).at2;have Htk:=eh (show vcs (phiG f v1 kk (bk.phis.take (j+1)))=vcs (phiG f v1 kk (bk.phis.take j))++[.bool (v1.getD an default).1,.int .i64 (v1.getD an default).2] by
       rw[List.take_succ_eq_append_getElem hjl];unfold phiG;rw[List.map_append,vcs_app];have e:bk.phis[j]=(n:Int):=by rw[←hnn,List.getD_eq_getElem?_getD,List.getElem?_eq_getElem hjl];rfl
       rw[List.map_singleton,e,Int.toNat_natCast];unfold ndAt;rw[←hnl2,han,Int.toNat_natCast];rfl)
      have Hjl:=eh hjl;have hwr:base≤wr.heap.size:=by have:=Hb.out.size;have:=Hbase.out;omega
      have hj2:j≤1000:=by omega
      have lbp:=hbp;have kk1:(kk:Int)<nl.length:=by have:=ha.1;omega
      have nn1:(n:Int)<f.nodes.length:=by omega
      have aa1:(an:Int)<f.nodes.length:=by omega
      generalize v1.getD an default=va at*;obtain⟨va0,va1⟩:=va;simp only at r0 r1;have Hown:=eh hown;clear hgd hmem hn hnn han ha hfn hgd2 rr hnl2 hSn hba hr1 hE;go_upto_region 10 with(fail);clear z0;refine uE (S:=fun W=>W.cell? ⟨gb,6,none⟩=some (.slice (some ⟨gvl,0,none⟩) f.nodes.length f.nodes.length)∧W.cell? ⟨gF,2,none⟩=some (.slice (some ⟨bn,on_,none⟩) f.nodes.length cn)∧W.cell? ⟨bn,on_+n*7+6,none⟩=some (.slice (some ⟨ba,oa,none⟩) nl.length e1)∧W.cell? ⟨ba,oa+kk,none⟩=some (.int .i64 (an:Int))∧W.cell? ⟨gvl,an*2,none⟩=some (.bool va0)∧W.cell? ⟨gvl,an*2+1,none⟩=some (.int .i64 va1)) (fun _=>true) (by kernel_rfl) ⟨b6,q2,n6,y0,r0,r1⟩ (fun HS=>?_);clear b6 q2 n6 y0 r0 r1
      iterate 16 (refine uO rfl rfl HS (.inl ⟨rfl,fun W hW=>by obtain⟨h0,h1,h2,h3,h4,h5⟩:=hW;go_simp;rfl⟩) ?_;simp only[pS])
      have hdd:Below w5.heap.size w5 wr.drew:=Hb.out.drew;have hownd:wr.drew.ownsRow base 83 2 (.slice A j c) j (vcs (phiG f v1 kk (bk.phis.take j))):=Hown.out;have hwrd:base≤wr.drew.heap.size:=hwr;generalize wr.drew=wd2 at*;have hgo:=fun(g:Nat) (hg:g<w5.heap.size)=>(show(Value.slice A j c).ownBlock≠some g from uF (by have:=Hbase.out;omega) hownd)
      have hS9:=fun W (hW:Below w5.heap.size wd2 W)=>(show W.cell? ⟨gb,6,none⟩=some (.slice (some ⟨gvl,0,none⟩) f.nodes.length f.nodes.length)∧W.cell? ⟨gF,2,none⟩=some (.slice (some ⟨bn,on_,none⟩) f.nodes.length cn)∧W.cell? ⟨bn,on_+n*7+6,none⟩=some (.slice (some ⟨ba,oa,none⟩) nl.length e1)∧W.cell? ⟨ba,oa+kk,none⟩=some (.int .i64 (an:Int))∧W.cell? ⟨gvl,an*2,none⟩=some (.bool va0)∧W.cell? ⟨gvl,an*2+1,none⟩=some (.int .i64 va1)from⟨(hW.cell (p:=⟨gb,6,none⟩) HL5.out.1).trans HS.1,(hW.cell (p:=⟨gF,2,none⟩) HL5.out.2.1).trans HS.2.1,(hW.cell (p:=⟨bn,on_+n*7+6,none⟩) HL5.out.2.2.2.1).trans HS.2.2.1,(hW.cell (p:=⟨ba,oa+kk,none⟩) HL5.out.2.2.2.2).trans HS.2.2.2.1,(hW.cell (p:=⟨gvl,an*2,none⟩) HL5.out.2.2.1).trans HS.2.2.2.2.1,(hW.cell (p:=⟨gvl,an*2+1,none⟩) HL5.out.2.2.1).trans HS.2.2.2.2.2⟩)
      refine uP rfl rfl (fun K HK=>?_);go_simp;have hbw:=(Below.refl w5.heap.size wd2).alloc hdd.size (.cells #[.bool va0,.int .i64 va1] 83);refine HK.out _ _ (fun _=>hS9 _ hbw) ?_;clear HK;try simp only[pS]
      refine uP rfl rfl (fun K HK=>?_);rw[if_pos (by rfl)];refine oper_append_row (.tmp 49) (.tmp 65) 119 rfl base 83 _ 2 16 Tryz.underlying119 infoAv rfl (by omega) A c j (vcs (phiG f v1 kk (bk.phis.take j))) rfl (hownd.alloc _) wd2.heap.size 1 1 83 [.bool va0,.int .i64 va1] rfl (Blk.new _ _ _) rfl (by intro u hu;simp at hu;rcases hu with rfl|rfl<;>rfl) (by unfold maxLen;omega) (by omega) (by simp;omega) ?_;intro A3 c3' w7 own3 hg3 hat3;have hbw3:=hbw.grown hg3 (by simp;have:=hdd.size;omega) (fun q hq=>by have:=(hownd.lt q hq).1;have:=Hbase.out;omega);refine HK.out _ _ (fun _=>hS9 _ hbw3) ?_;have HS2:=hS9 _ hbw3;clear HK;try simp only[pS]
      refine uO (S:=fun W=>W.cell? ⟨gb,6,none⟩=some (.slice (some ⟨gvl,0,none⟩) f.nodes.length f.nodes.length)∧W.cell? ⟨gF,2,none⟩=some (.slice (some ⟨bn,on_,none⟩) f.nodes.length cn)∧W.cell? ⟨bn,on_+n*7+6,none⟩=some (.slice (some ⟨ba,oa,none⟩) nl.length e1)∧W.cell? ⟨ba,oa+kk,none⟩=some (.int .i64 (an:Int))∧W.cell? ⟨gvl,an*2,none⟩=some (.bool va0)∧W.cell? ⟨gvl,an*2+1,none⟩=some (.int .i64 va1)) rfl rfl HS2 (.inl ⟨rfl,fun W hW=>by obtain⟨h0,h1,h2,h3,h4,h5⟩:=hW;go_simp;rfl⟩) ?_;try simp only[pS]
      refine uD (by kernel_rfl) ?_ _;have own4:w7.ownsRow base 83 2 (.slice A3 (j+1) c3') (j+1) (vcs (phiG f v1 kk (bk.phis.take (j+1)))):=by rw[Htk.out];exact own3
      have HB7:=eh (hdd.trans hbw3);clear HS HS2 hS9 hbw hbw3 own3 hg3 hat3 hgo;go_wp2;go_roundw
      case rel=>exact⟨j+1,A3,c3',Hjl.out,by go_num,rfl,own4,HB7⟩
      case measure=>have:=Hjl.out;simp[intOf];omega
     ·have hge:¬(j:Int)<bk.phis.length:=by omega
      have ej:j=bk.phis.length:=by omega
      subst ej;rw[List.take_length]at hown;obtain⟨G,hG⟩:∃G,G=phiG f v1 kk bk.phis:=⟨_,rfl⟩;rw[←hG]at hown;have HG:=eh hG;have hGl:G.length=bk.phis.length:=by rw[hG];simp[phiG]
      have HBKr:=eh (HBK.out.below Hb.out HBK.out.lt);have HEr:=eh (show EvAt wr S gr gs gdn gb k x1 f bc (phiP v1 (bk.phis.take 0) (G.take 0)) by simp only[List.take_zero,phiP];exact HE4.out.below Hb.out);have HFr:=eh (HF4.out.below Hb.out HF4.out.lt);have HZr:=eh (HZ4.out.below Hb.out HZ4.out.lt);have HKr:=eh (KX.of_below (X:=fun q=>q=gr∨q=gvl) Hb.out (Nat.le_refl _));have Hown:=eh hown;have k0:=HBKr.out.at0;have lK:=HBKr.out.lt;clear hjl hG hown;go_wp2;clear k0 lK hge;go_loopw [71] (fun iv wx=>∃j:Nat,j≤bk.phis.length∧iv=.int .i64 j∧Hid (EvAt wx S gr gs gdn gb k x1 f bc (phiP v1 (bk.phis.take j) (G.take j)))∧Hid (Blk wx gF 50 #[.int .i64 f.mth,.int .i64 f.entry,.slice An f.nodes.length cn,.slice (some ⟨bb,ob,none⟩) f.blocks.length cb,.slice As f.states.length cs])∧Hid (Blk wx gz 83 #[.bool zc.1,.int .i64 zc.2])∧Hid (Blk wx gk 43 #[.slice A1 bk.phis.length c1,.slice A2 bk.body.length c2,.slice A3 bk.succ.length c3,.slice A4 bk.preds.length c4])∧Hid (wx.ownsRow base 83 2 (.slice A bk.phis.length c) bk.phis.length (vcs G))∧Hid (KX (fun q=>q=gr∨q=gvl) w5 wx)) (fun iv _=>bk.phis.length-(intOf iv).toNat)
      case atStart=>exact⟨0,Nat.zero_le _,rfl,HEr,HFr,HZr,HBKr,Hown,HKr⟩
      case round=>
       clear HEr HFr HZr HBKr Hown HKr;obtain⟨j,hj,rfl,HEr,HFr,HZr,HBr2,Hown,HKr⟩:=hrel
       by_cases hjl:j<bk.phis.length
       ·have hr1:=HR1'.out.keep (w':=wr) (HKr.out.kept (fun q hq=>⟨(HE4.out.lt q hq).1,fun e=>e.elim (HE4.out.lt q hq).2.1 (fun e=>(HE4.out.lt q hq).2.2 (e.trans Hgv.out.symm))⟩));obtain⟨bp,op_,hA1,hbp,z0⟩:=uX (hr1.rd (B:=wr.heap.size) (fun q hq=>(HEr.out.lt q hq).1)) hjl;have hgd:bk.phis[j]?.getD 0=bk.phis.getD j 0:=by rw[List.getD_eq_getElem?_getD]
        rw[hgd]at z0;have hmem:bk.phis.getD j 0∈bk.phis:=by rw[List.getD_eq_getElem?_getD,List.getElem?_eq_getElem hjl];exact List.getElem_mem hjl
        have hn:=HPi.out.n _ hmem;obtain⟨n,hnn⟩:∃n:Nat,bk.phis.getD j 0=n:=⟨_,(Int.toNat_of_nonneg hn.1).symm⟩;have hnl:n<f.nodes.length:=by omega
        rw[hnn]at z0;subst hA1;obtain⟨A',c',eA,hrd⟩:=Rd.of_own Hown.out;cases eA;obtain⟨ba,oa,hA3,hba,hc3⟩:=hrd.2 (by omega);have y0:wr.cell? ⟨ba,oa+j*2,none⟩=some (.bool (G.getD j default).1):=hc3 (j*2) _ (vcs_at G j (by omega)).1;have y1:wr.cell? ⟨ba,oa+j*2+1,none⟩=some (.int .i64 (G.getD j default).2):=by rw[Nat.add_assoc];exact hc3 (j*2+1) _ (vcs_at G j (by omega)).2
        subst hA3;have b6:wr.cell? ⟨gb,6,none⟩=some (.slice (some ⟨gvl,0,none⟩) f.nodes.length f.nodes.length):=by rw[←Hgv.out];exact HEr.out.bd.cell 6
        have hvl:n<(phiP v1 (bk.phis.take j) (G.take j)).length:=by rw[HEr.out.len];exact hnl
        obtain⟨r0,r1⟩:=vrow_at HEr.out.v (k:=n) hvl;have f0:=HEr.out.v.frozen (n*2);have f1:=HEr.out.v.frozen (n*2+1);have hput:=vrow_put HEr.out.v (i:=n) hvl (G.getD j default);rw[Hgv.out]at r0 r1 f0 f1 hput;have hgp:=(uA wr ⟨gvl,n*2,none⟩ (.bool (G.getD j default).1)).trans (uA _ ⟨gvl,n*2+1,none⟩ (.int .i64 (G.getD j default).2));have Hst:=eh (show phiP v1 (bk.phis.take (j+1)) (G.take (j+1))=(phiP v1 (bk.phis.take j) (G.take j)).set n (G.getD j default) by
         rw[List.take_succ_eq_append_getElem hjl,List.take_succ_eq_append_getElem (show j<G.length by omega),phiP_snoc _ _ _ _ _ (by simp;omega)];have e:bk.phis[j]=(n:Int):=by rw[←hnn,List.getD_eq_getElem?_getD,List.getElem?_eq_getElem hjl];rfl
         rw[e,Int.toNat_natCast,List.getD_eq_getElem?_getD,List.getElem?_eq_getElem (show j<G.length by omega)];rfl)
        have Hjl:=eh hjl;have nn1:(n:Int)<f.nodes.length:=by omega
        have lbp:=hbp;generalize G.getD j default=va at*;obtain⟨va0,va1⟩:=va;simp only at y0 y1 hput hgp;have lba:=hba;clear hr1 hgd hmem hn hnn hrd hc3 hvl;go_upto_region 15 with(fail);clear z0;refine uE (S:=fun W=>W.cell? ⟨gb,6,none⟩=some (.slice (some ⟨gvl,0,none⟩) f.nodes.length f.nodes.length)∧W.cell? ⟨ba,oa+j*2,none⟩=some (.bool va0)∧W.cell? ⟨ba,oa+j*2+1,none⟩=some (.int .i64 va1)) (fun q=>decide (q≤9)) (by kernel_rfl) ⟨b6,y0,y1⟩ (fun HS=>?_);clear b6 y0 y1
        iterate 10 (refine uO rfl rfl HS (.inl ⟨rfl,fun W hW=>by obtain⟨h0,h1,h2⟩:=hW;go_simp;rfl⟩) ?_;simp only[pS])
        refine uP rfl rfl (fun K HK=>?_);go_simp;refine HK.out _ _ (fun h=>by cases h) ?_;clear HK HS r0 r1 f0 f1;try simp only[pS]
        refine uD (by kernel_rfl) ?_ _;obtain⟨w9,hw9,hE9,hg9⟩:∃w9,w9=((wr.setCell ⟨gvl,n*2,none⟩ (.bool va0)).setCell ⟨gvl,n*2+1,none⟩ (.int .i64 va1)).drew∧EvAt w9 S gr gs gdn gb k x1 f bc (phiP v1 (bk.phis.take (j+1)) (G.take (j+1)))∧wr.grownBy w9 (some gvl):=⟨_,rfl,by
         rw[Hst.out];exact HEr.out.put (by rw[Hgv.out];exact hput.drew) (by simp) (by rw[Hgv.out];exact hgp.trans (uW _ _)),hgp.trans (uW _ _)⟩
        rw[←hw9];have hV:Blk wr gvl 83 _:=Hgv.out▸HEr.out.v;have HE9:=eh hE9;have HF9:=eh (HFr.out.grown hg9 (fun e=>Blk.ne_ HFr.out hV (by decide) (Option.some.inj e)));have HZ9:=eh (HZr.out.grown hg9 (fun e=>hvz (Option.some.inj e)));have HB9:=eh (HBr2.out.grown hg9 (fun e=>Blk.ne_ HBr2.out hV (by decide) (Option.some.inj e)));have Hown9:=eh (uS Hown.out hg9 (.inl (uF (by have:=HE4.out.v.lt;rw[Hgv.out]at this;have:=Hbase.out;omega) Hown.out)));have HK9:=eh (HKr.out.trans (KX.of_grown hg9 (fun g e=>.inr (Option.some.inj e).symm)));clear hw9 hE9 hg9 hput hgp hV;go_wp2;go_roundw
        case rel=>exact⟨j+1,Hjl.out,by go_num,HE9,HF9,HZ9,HB9,Hown9,HK9⟩
        case measure=>have:=Hjl.out;simp[intOf];omega
       ·have hge:¬(j:Int)<bk.phis.length:=by omega
        have ej:j=bk.phis.length:=by omega
        subst ej;have HEe:=eh (show EvAt wr S gr gs gdn gb k x1 f bc (phiV f bk last v1) by
         have:=HEr.out;rw[List.take_length,←hGl,List.take_length,HG.out,Hkk.out]at this;exact this)
        have hrng:=HPi.out.rng;have c16:wr.cell? ⟨gr,16,none⟩=some (.int .i64 x1.nds):=HEe.out.r.cell 16;have k0:=HBr2.out.at0;have f16:=HEe.out.r.frozen 16;have lR:=HEe.out.r.lt;have hw:wrap64 (x1.nds+bk.phis.length)=x1.nds+bk.phis.length:=by unfold wrap64;omega
        have hw2:IntKind.i64.wrap (x1.nds+bk.phis.length)=x1.nds+bk.phis.length:=IntWalk.i64_in _ (by omega);have hR7:=HEe.out.r.set_ 16 (.int .i64 (x1.nds+bk.phis.length));simp only[List.setIfInBounds_toArray,List.set_cons_zero,List.set_cons_succ]at hR7;have hR7':RAt (wr.setCell ⟨gr,16,none⟩ (.int .i64 (x1.nds+bk.phis.length))) gr k (phiX bk x1):=hR7;have hg7:=(uA wr ⟨gr,16,none⟩ (.int .i64 (x1.nds+bk.phis.length))).trans (uW _ _);clear hjl hR7 hrng HEr;go_upto_region 17 with(fail);have lK:=HBr2.out.lt;go_region;clear k0 lK c16 f16 lR;obtain⟨w9,hw9,hE9,hg9⟩:∃w9,w9=(wr.setCell ⟨gr,16,none⟩ (.int .i64 (x1.nds+bk.phis.length))).drew∧EvAt w9 S gr gs gdn gb k (phiX bk x1) f bc (phiV f bk last v1)∧wr.grownBy w9 (some gr):=⟨_,rfl,HEe.out.run hR7'.drew hg7,hg7⟩;have Hw9:=eh hw9;have HE9:=eh hE9;have HF9:=eh (HFr.out.grown hg9 (fun e=>Blk.ne_ HFr.out HEe.out.r (by decide) (Option.some.inj e)));have HZ9:=eh (HZr.out.grown hg9 (fun e=>Blk.ne_ HZr.out HEe.out.r (by decide) (Option.some.inj e)));have HK9:=eh (HKr.out.trans (KX.of_grown hg9 (fun g e=>.inl (Option.some.inj e).symm)));clear hE9 hg9 hR7' hg7 hw hw2 hge;rw[←hw9];clear hw9;go_wp2;go_meet;exact⟨HE9,HF9,HZ9,eh (HK4.out.trans HK9.out),HK9⟩
  case rest=>
   obtain⟨HE5,HF5,HZ5,HK5,HK45⟩:=hcut;have hgvb:bc.gvl=gvl:=by rw[Hbc.out]
   have HB5:=eh (HBK.out.kx HK45.out (fun e=>e.elim (fun e=>Blk.ne_ HBK.out HE4.out.r (by decide) e) (fun e=>Blk.ne_ HBK.out HE4.out.v (by decide) (e.trans hgvb.symm))));have HKp:=eh (show Kept S w4 wc from HK45.out.kept (fun q hq=>⟨(HE4.out.lt q hq).1,fun e=>e.elim (HE4.out.lt q hq).2.1 (fun e=>(HE4.out.lt q hq).2.2 (e.trans hgvb.symm))⟩));have HR2c:=eh (HR2'.out.keep HKp.out);have HR3c:=eh (HR3'.out.keep HKp.out);have bO:=Blk.new wc 162 #[.int .i64 (-1),.bool false,.bool false,.int .i64 0,.bool false];have hb6:=(Below.refl wc.heap.size wc).alloc (Nat.le_refl _) (.cells #[.int .i64 (-1),.bool false,.bool false,.int .i64 0,.bool false] 162);clear HE4 HF4 HZ4 HK4 HBK k0 lK HR1' HR2' HR3' HR4' HPh;go_upto_region 19 with(fail);obtain⟨go,hgo⟩:∃go,go=wc.heap.size:=⟨_,rfl⟩;rw[←hgo]at bO⊢;have hwo:w.heap.size≤go:=by have:=HK5.out.size;omega
   clear hgo;generalize wc.alloc (.cells #[.int .i64 (-1),.bool false,.bool false,.int .i64 0,.bool false] 162)=w6 at*;have HSl:=eh (fun q (hq:S q)=>(HE5.out.lt q hq).1);have HE6:=eh (HE5.out.below hb6);have HF6:=eh (HF5.out.below hb6 HF5.out.lt);have HZ6:=eh (HZ5.out.below hb6 HZ5.out.lt);have HB6:=eh (HB5.out.below hb6 HB5.out.lt);have HO6:=eh bO;have HK6:=eh (HK5.out.trans (KX.of_below (X:=fun q=>q=gr∨q=gvl) hb6 (Nat.le_refl _)));have HR2:=eh (HR2c.out.keep (Kept.of_below hb6 HSl.out));have HR3:=eh (HR3c.out.keep (Kept.of_below hb6 HSl.out));have Hgvb:=eh hgvb;have k1:=HB6.out.at1;have lK:=HB6.out.lt;have hbl:=HBi.out.body;clear HE5 HF5 HZ5 HB5 HK5 HK45 HKp HR2c HR3c bO hb6 HSl hgvb;go_wp2;clear k1 lK;go_loopw [103] (fun iv wx=>∃(j:Nat) (x3:RX) (v3:List AV) (o3:OnV),j≤bk.body.length∧iv=.int .i64 j∧Hid (o3.over=false∧BodyRun f bk (bk.body.drop j) o3 x3 v3 x2 v2 o2)∧Hid (EvAt wx S gr gs gdn gb k x3 f bc v3)∧Hid (Blk wx gF 50 #[.int .i64 f.mth,.int .i64 f.entry,.slice An f.nodes.length cn,.slice (some ⟨bb,ob,none⟩) f.blocks.length cb,.slice As f.states.length cs])∧Hid (Blk wx gz 83 #[.bool zc.1,.int .i64 zc.2])∧Hid (Blk wx gk 43 #[.slice A1 bk.phis.length c1,.slice A2 bk.body.length c2,.slice A3 bk.succ.length c3,.slice A4 bk.preds.length c4])∧Hid (Blk wx go 162 #[.int .i64 o3.blk,.bool o3.over,.bool o3.val.1,.int .i64 o3.val.2,.bool o3.is])∧Hid (KX (fun q=>q=gr∨q=gvl) w wx)∧Hid (RdS wx S 1 A2 bk.body.length (ints bk.body))∧Hid (RdS wx S 1 A3 bk.succ.length (ints bk.succ))) (fun iv _=>bk.body.length-(intOf iv).toNat)
   case atStart=>exact⟨0,_,_,{blk:= -1},Nat.zero_le _,rfl,eh ⟨rfl,HBr.out⟩,HE6,HF6,HZ6,HB6,HO6,HK6,HR2,HR3⟩
   case round=>
    clear HE6 HF6 HZ6 HB6 HO6 HK6 HR2 HR3;obtain⟨j,x3,v3,o3,hj,rfl,HBo,HE,HF,HZ,HB,HO,HK,HR2,HR3⟩:=hrel
    by_cases hjl:j<bk.body.length
    ·obtain⟨br,orr,rfl,hbr,z0⟩:=uX (HR2.out.rd (B:=wr.heap.size) (fun q hq=>(HE.out.lt q hq).1)) hjl;have hgd:bk.body[j]?.getD 0=bk.body.getD j 0:=by rw[List.getD_eq_getElem?_getD]
     rw[hgd]at z0;have hdr:bk.body.drop j=bk.body.getD j 0::bk.body.drop (j+1):=by rw[List.drop_eq_getElem_cons hjl,List.getD_eq_getElem?_getD,List.getElem?_eq_getElem hjl];rfl
     have hbo:=HBo.out.2;rw[hdr]at hbo;have Hjl:=eh hjl;obtain⟨n,hn⟩:∃n,n=bk.body.getD j 0:=⟨_,rfl⟩;rw[←hn]at z0 hbo;have hst:∃n1:Nat,n=n1∧0≤x3.nds∧x3.nds+1≤4194304∧NdIn f bk (nx x3) n1∧(((nodeF f bk (nx x3) v3 n1).2.2.over=true∧(nodeF f bk (nx x3) v3 n1).1=x2∧(nodeF f bk (nx x3) v3 n1).2.1=v2∧(nodeF f bk (nx x3) v3 n1).2.2=o2)∨((nodeF f bk (nx x3) v3 n1).2.2.over=false∧BodyRun f bk (bk.body.drop (j+1)) (nodeF f bk (nx x3) v3 n1).2.2 (nodeF f bk (nx x3) v3 n1).1 (nodeF f bk (nx x3) v3 n1).2.1 x2 v2 o2)):=by
      cases hbo with
      |over h0 h1 h2 h3=>exact⟨n.toNat,(Int.toNat_of_nonneg h0).symm,h1.1,h1.2,h2,.inl ⟨h3,rfl,rfl,rfl⟩⟩
      |next h0 h1 h2 h3 h4=>exact⟨n.toNat,(Int.toNat_of_nonneg h0).symm,h1.1,h1.2,h2,.inr ⟨h3,h4⟩⟩
     obtain⟨n1,rfl,hn0,hn1,hnd,hway⟩:=hst;have lbr:br<wr.heap.size:=hbr;have c16:wr.cell? ⟨gr,16,none⟩=some (.int .i64 x3.nds):=HE.out.r.cell 16;have f16:=HE.out.r.frozen 16;have lR:=HE.out.r.lt;have hw:wrap64 (x3.nds+1)=x3.nds+1:=by unfold wrap64;omega
     have hR7:=HE.out.r.set_ 16 (.int .i64 (x3.nds+1));simp only[List.setIfInBounds_toArray,List.set_cons_zero,List.set_cons_succ]at hR7;have hR7':RAt (wr.setCell ⟨gr,16,none⟩ (.int .i64 (x3.nds+1))) gr k (nx x3):=hR7;have hg7:=uA wr ⟨gr,16,none⟩ (.int .i64 (x3.nds+1));have HE7:=eh (HE.out.run hR7' hg7);have HF7:=eh (HF.out.grown hg7 (fun e=>Blk.ne_ HF.out HE.out.r (by decide) (Option.some.inj e)));have HZ7:=eh (HZ.out.grown hg7 (fun e=>Blk.ne_ HZ.out HE.out.r (by decide) (Option.some.inj e)));have HB7:=eh (HB.out.grown hg7 (fun e=>Blk.ne_ HB.out HE.out.r (by decide) (Option.some.inj e)));have HO7:=eh (HO.out.grown hg7 (fun e=>Blk.ne_ HO.out HE.out.r (by decide) (Option.some.inj e)));have HK7:=eh (HK.out.trans (KX.of_grown hg7 (fun g e=>.inl (Option.some.inj e).symm)));have hkp7:Kept S wr (wr.setCell ⟨gr,16,none⟩ (.int .i64 (x3.nds+1))):=Kept.grown (Kept.refl _ _) hg7 (fun q hq=>(HE.out.lt q hq).1) (fun q hq e=>(HE.out.lt q hq).2.1 (Option.some.inj e));have HR27:=eh (HR2.out.keep hkp7);have HR37:=eh (HR3.out.keep hkp7);have Hway:=eh hway;have Hnd:=eh hnd;have hlong:x3.nds+1≤4194304:=hn1;clear hgd hdr hbo hn hR7 hR7' hg7 hkp7 hway hnd HE HF HZ HB HO HK HR2 HR3 HBo hn1;go_upto_region 23 with(fail);generalize wr.setCell ⟨gr,16,none⟩ (.int .i64 (x3.nds+1))=w7 at*;clear c16 f16 lR hw z0 lbr hbr;have c16:w7.cell? ⟨gr,16,none⟩=some (.int .i64 (x3.nds+1)):=HE7.out.r.cell 16;have lR:=HE7.out.r.lt;have g4:decide ((4194304:Int)<x3.nds+1)=false:=by simp;omega
     have k0:=HB7.out.at0;have k1:=HB7.out.at1;have k2:=HB7.out.at2;have k3:=HB7.out.at3;have lK:=HB7.out.lt;have HNd:=eh (node_any HE7.out (bk:=bk) (hh:=⟨(A1,c1),(some ⟨br,orr,none⟩,c2),(A3,c3),(A4,c4)⟩) HR37.out Hnd.out);simp only[bkv]at HNd;obtain⟨⟨x4,v4,o4⟩,e4⟩:∃q,q=nodeF f bk (nx x3) v3 n1:=⟨_,rfl⟩;rw[←e4]at HNd Hway;simp only at HNd Hway;clear e4;go_wp2_with fail;refine HNd.out.mono ?_;rintro e w8 ⟨rfl,hE8,hK8⟩;have hX:=fun{g:Nat} {t:TypeId} {cs:Array Value} (hb:Blk w7 g t cs) (h1:t≠79) (h2:t≠83)=>hb.kx hK8 (fun e=>e.elim (fun e=>Blk.ne_ hb HE7.out.r h1 e) (fun e=>Blk.ne_ hb HE7.out.v h2 e))
     have hzv:gz≠gr∧gz≠bc.gvl:=⟨fun e=>Blk.ne_ HZ7.out HE7.out.r (by decide) e,by rw[Hgvb.out];exact hvz⟩;have HF8:=eh (hX HF7.out (by decide) (by decide));have HZ8:=eh (HZ7.out.kx hK8 (fun e=>e.elim hzv.1 hzv.2));have HB8:=eh (hX HB7.out (by decide) (by decide));have HO8:=eh (hX HO7.out (by decide) (by decide));have hkp:Kept S w7 w8:=hK8.kept (fun q hq=>⟨(HE7.out.lt q hq).1,fun e=>e.elim (HE7.out.lt q hq).2.1 (HE7.out.lt q hq).2.2⟩);have HR28:=eh (HR27.out.keep hkp);have HR38:=eh (HR37.out.keep hkp);have HK8:=eh (HK7.out.trans (hK8.mono (fun q _ e=>e.imp id (fun e=>e.trans Hgvb.out))));have HE8:=eh hE8;clear HNd c16 lR g4 k0 k1 k2 k3 lK hE8 hK8 hX hkp HE7 HF7 HZ7 HB7 HO7 HK7 HR27 HR37;have p0:=HO8.out.frozen 0;have p1:=HO8.out.frozen 1;have p2:=HO8.out.frozen 2;have p3:=HO8.out.frozen 3;have p4:=HO8.out.frozen 4;have q0:=HO8.out.at0;have q1:=HO8.out.at1;have q2:=HO8.out.at2;have q3:=HO8.out.at3;have q4:=HO8.out.cell 4;simp at q4;have lO:=HO8.out.lt;have hO9:=HO8.out.set5 (a:=.int .i64 o4.blk) (b:=.bool o4.over) (c:=.bool o4.val.1) (d:=.int .i64 o4.val.2) (e:=.bool o4.is);have hg9:=grown_set5 (w:=w8) go (.int .i64 o4.blk) (.bool o4.over) (.bool o4.val.1) (.int .i64 o4.val.2) (.bool o4.is);unfold set5 at hO9 hg9;go_upto_region 26 with(fail);clear p0 p1 p2 p3 p4 q0 q1 q2 q3 q4 lO;generalize((((w8.setCell ⟨go,0,none⟩ (.int .i64 o4.blk)).setCell ⟨go,1,none⟩ (.bool o4.over)).setCell ⟨go,2,none⟩ (.bool o4.val.1)).setCell ⟨go,3,none⟩ (.int .i64 o4.val.2)).setCell ⟨go,4,none⟩ (.bool o4.is)=w9 at*;have HE9:=eh (HE8.out.far HO8.out (by decide) (fun e=>Blk.ne_ HO8.out HE8.out.v (by decide) e) (fun q hq e=>by
      have:=(HI.out.lt q hq).1;omega) hg9)
     have HF9:=eh (HF8.out.grown hg9 (fun e=>Blk.ne_ HF8.out HO8.out (by decide) (Option.some.inj e)));have HZ9:=eh (HZ8.out.grown hg9 (fun e=>Blk.ne_ HZ8.out HO8.out (by decide) (Option.some.inj e)));have HB9:=eh (HB8.out.grown hg9 (fun e=>Blk.ne_ HB8.out HO8.out (by decide) (Option.some.inj e)));have hkp9:Kept S w8 w9:=Kept.grown (Kept.refl _ _) hg9 (fun q hq=>(HE8.out.lt q hq).1) (fun q hq e=>by
      have:=(HI.out.lt q hq).1;have:=Option.some.inj e;omega)
     have HR29:=eh (HR28.out.keep hkp9);have HR39:=eh (HR38.out.keep hkp9);have HK9:=eh (HK8.out.new hg9 (fun g e hl=>by have:=Option.some.inj e;omega));have HO9:=eh hO9;clear hO9 hg9 hkp9 HE8 HF8 HZ8 HB8 HO8 HK8 HR28 HR38;have q1:=HO9.out.at1;have lO:=HO9.out.lt;rcases Hway.out with⟨hov,e1,e2,e3⟩|⟨hov,hrest⟩
     ·rw[hov]at q1;have Hov:=eh hov;have HE123:=eh (show x4=x2∧o4=o2 from⟨e1,e3⟩);clear hov e1 e2 e3;have z0:=HZ9.out.at0;have z1:=HZ9.out.at1;have y0:=HZ9.out.frozen 0;have y1:=HZ9.out.frozen 1;have lz:=HZ9.out.lt;have hzo:gz≠go:=fun e=>Blk.ne_ HZ9.out HO9.out (by decide) e
      have hla:x'=x2∧a=o2.val∧b=o2.is:=by
       rcases HLa.out with h|h
       ·exact⟨h.2.1.symm,h.2.2.1.symm,h.2.2.2.symm⟩
       ·have h1:=Hov.out;rw[HE123.out.2,h.1]at h1;cases h1
      have Hla:=eh hla;clear hla;go_upto_region 27 with(fail);refine uE (S:=fun W=>W.cell? ⟨go,2,none⟩=some (.bool o4.val.1)∧W.cell? ⟨go,3,none⟩=some (.int .i64 o4.val.2)∧W.cell? ⟨go,4,none⟩=some (.bool o4.is)) (fun _=>true) (by kernel_rfl) ⟨HO9.out.at2,HO9.out.at3,HO9.out.cell 4⟩ (fun HS=>?_);have hO10:=((HO9.out.far (p:=⟨gz,0,none⟩) (Ne.symm hzo) (.bool o4.val.1)).far (p:=⟨gz,1,none⟩) (Ne.symm hzo) (.int .i64 o4.val.2)).drew;have hZ10:=((HZ9.out.set_ 0 (.bool o4.val.1)).set_ 1 (.int .i64 o4.val.2)).drew;have hg10:=((uA w9 ⟨gz,0,none⟩ (.bool o4.val.1)).trans (uA _ ⟨gz,1,none⟩ (.int .i64 o4.val.2))).trans (uW _ (some gz));have HE10:=eh (HE9.out.r.grown hg10 (fun e=>Blk.ne_ HE9.out.r HZ9.out (by decide) (Option.some.inj e)));have HK10:=eh (HK9.out.new hg10 (fun g e hl=>by have e2:gz=g:=Option.some.inj e;omega))
      iterate 4 (refine uO rfl rfl HS (.inl ⟨rfl,fun W hW=>by obtain⟨h0,h1,h2⟩:=hW;go_simp;rfl⟩) ?_;simp only[pS])
      refine uP rfl rfl (fun K HK=>?_);go_simp;refine HK.out _ _ (fun _=>⟨hO10.at2,hO10.at3,hO10.cell 4⟩) ?_;clear HK HS;try simp only[pS]
      have HS:World.cell? _ ⟨go,2,none⟩=some (.bool o4.val.1)∧World.cell? _ ⟨go,3,none⟩=some (.int .i64 o4.val.2)∧World.cell? _ ⟨go,4,none⟩=some (.bool o4.is):=⟨hO10.at2,hO10.at3,hO10.cell 4⟩;refine uO rfl rfl HS (.inl ⟨rfl,fun W hW=>by obtain⟨h0,h1,h2⟩:=hW;go_simp;rfl⟩) ?_;try simp only[pS]
      refine uD (by kernel_rfl) ?_ _;clear HS hO10 hg10 z0 z1 y0 y1 lz q1 lO;generalize((w9.setCell ⟨gz,0,none⟩ (.bool o4.val.1)).setCell ⟨gz,1,none⟩ (.int .i64 o4.val.2)).drew=w10 at*;have q0:w10.cell? ⟨gz,0,none⟩=some (.bool o4.val.1):=hZ10.cell 0;have q1:w10.cell? ⟨gz,1,none⟩=some (.int .i64 o4.val.2):=hZ10.cell 1;go_wp2;refine bodyPost_ret (v:=.tuple #[avv o4.val,.bool o4.is]) (by simp[results,Tryz.results27,go_sem,q0,q1]) rfl ?_;obtain⟨e1,e2,e3⟩:=Hla.out;obtain⟨e4,e5⟩:=HE123.out;have hfin:=HP.out w10 (by rw[e1,←e4];exact HE10.out) ⟨HK10.out.os,HK10.out.tape,HK10.out.output,HK10.out.size,fun q hq hne=>HK10.out.block q hq (fun e=>e.elim (fun e=>hne (by rw[e])) (fun e=>by omega))⟩;rw[e2,e3,←e5]at hfin;exact hfin
     ·rw[hov]at q1;have HBn:=eh (show o4.over=false∧BodyRun f bk (bk.body.drop (j+1)) o4 x4 v4 x2 v2 o2 from⟨hov,hrest⟩);clear hov hrest;go_wp2;go_roundw
      case rel=>exact⟨j+1,x4,v4,o4,Hjl.out,by go_num,HBn,HE9,HF9,HZ9,HB9,HO9,HK9,HR29,HR39⟩
      case measure=>have:=Hjl.out;simp[intOf];omega
    ·have ej:bk.body.drop j=[]:=List.drop_eq_nil_of_le (by omega);have hge:¬(j:Int)<bk.body.length:=by omega
     have hbo:=HBo.out;rw[ej]at hbo;have hst:o3.over=false∧x3=x2∧v3=v2∧o3=o2:=⟨hbo.1,by cases hbo.2;exact⟨rfl,rfl,rfl⟩⟩;obtain⟨hov,rfl,rfl,rfl⟩:=hst;have hla:0≤o3.blk∧∃m2,m2<m1∧FunRun f m2 now o3.blk.toNat x3 v3 x' a b:=by
      rcases HLa.out with h|h
      ·rw[hov]at h;cases h.1
      ·exact h.2
     obtain⟨hb0,m2,hm2,hrun⟩:=hla;obtain⟨nb,hnb⟩:∃nb:Nat,o3.blk=nb:=⟨_,(Int.toNat_of_nonneg hb0).symm⟩;rw[hnb,Int.toNat_natCast]at hrun;have HRun2:=eh hrun;have q0:=HO.out.at0;have lO:=HO.out.lt;rw[hnb]at q0;have Hm2:=eh hm2;clear hjl ej hbo hov hb0 hrun hm2 HLa HBr;clear hnb;go_upto_region 29 with(fail);go_quiet (fail);rename Nat=>q
     have HEq:=eh (HE.out.below (uC (Below.refl _ _) q));have HFq:=eh (HF.out.drewN q);have HZq:=eh (HZ.out.drewN q);have HKq:=eh (HK.out.trans (KX.of_below (X:=fun q=>q=gr∨q=gvl) (uC (Below.refl wr.heap.size wr) q) (Nat.le_refl _)));go_wp2;go_roundg m1
     case measure=>exact hm
     case rel=>exact⟨m2,now,nb,x3,v3,zc,Hm2.out,rfl,rfl,HRun2,HEq,HFq,HZq,HKq⟩
def swM:Mth:=⟨sE,sE,sI,[⟨1,0,0,1⟩,⟨23,0,0,0⟩,⟨1,0,0,1⟩,⟨33,0,0,0⟩]⟩
def swP:Prg:=⟨[],[swM]⟩
def swVs:List Vs:=[⟨[sE,sI,sE,sI],[true,true,true,true],[true,true,true,true],1⟩]
def swF(a b n:Int):Fn:=
 ⟨0,0,[⟨1,0,0,-1,sI,a,[]⟩,⟨1,0,0,-1,sI,b,[]⟩,⟨1,0,0,-1,sI,0,[]⟩,⟨1,0,0,-1,sI,1,[]⟩,⟨1,0,0,-1,sI,n,[]⟩,⟨45,0,0,-1,sE,0,[]⟩,
  ⟨41,0,0,-1,sI,0,[0,7]⟩,⟨41,0,0,-1,sI,0,[1,6]⟩,⟨41,0,0,-1,sI,0,[2,12]⟩,⟨19,0,0,-1,sI,0,[8,4]⟩,⟨46,0,0,-1,sE,0,[9]⟩,
  ⟨42,0,0,0,sE,0,[]⟩,⟨8,0,0,-1,sI,0,[8,3]⟩,⟨45,0,0,-1,sE,0,[]⟩,⟨47,0,0,-1,sE,0,[6]⟩],
  [⟨[],[0,1,2,3,4,5],[1],[]⟩,⟨[6,7,8],[9,10],[2,3],[0,2]⟩,⟨[],[11,12,13],[1],[1]⟩,⟨[],[14],[],[1]⟩],[⟨0,1,-1,[],[3],[]⟩]⟩
def swB:List Int:=[0,0,0,0,0,0,1,1,1,1,1,2,2,2,3]
def swQ:List Int:=[0,1,2,3,4,5,0,1,2,3,4,0,1,2,0]
theorem sw_may:mayP swP=(0,[]):=by decide+kernel
theorem sw_verM:verM swP swM=some ⟨[sE,sI,sE,sI],[true,true,true,true],[true,true,true,true],1⟩:=by kernel_rfl
theorem sw_ver:Ver swP swVs:=by
 refine⟨sw_may,rfl,fun i hi=>?_⟩
 match i,hi with
 |0,_=>exact sw_verM
theorem sw_pok:POk swP:=by
 refine⟨by decide,by decide,fun k hk=>(by simp[swP]at hk),fun k hk=>?_⟩
 match k,hk with
 |0,_=>exact⟨by decide,by decide,by decide,by decide⟩
theorem sw_next(pc:Nat):∀j∈nextF swM pc,0≤j:=by
 match pc with
 |0=>decide
 |1=>decide
 |2=>decide
 |3=>decide
 |n+4=>
  intro j hj;unfold nextF at hj;rw[if_pos (by unfold inB;simp[swM];omega)]at hj;cases hj
theorem sw_pin:PIn swP swVs:=by
 refine⟨rfl,fun i hi=>?_,by decide,⟨by decide,fun k hk=>?_⟩,fun k hk=>?_,fun k hk=>?_⟩
 ·match i,hi with
  |0,_=>rfl
 ·match k,hk with
  |0,_=>decide
 ·match k,hk with
  |0,_=>decide
 ·match k,hk with
  |0,_=>exact sw_next
theorem sw_vers:Vers swP swVs:=by
 refine⟨rfl,fun i hi=>?_⟩
 match i,hi with
 |0,_=>exact verM_ok (fun k _=>sw_next k) (by decide) sw_verM
instance stAtDec (f:Fn) (blk plc:List Int) (b k:Nat) (n:Int):Decidable (StAt f blk plc b k n):=by unfold StAt;infer_instance
instance endAtDec (f:Fn) (b:Bk) (k:Nat) (n:Int):Decidable (endAt f b k n):=by unfold endAt;infer_instance
instance argOkDec (f:Fn) (fm:Form) (k:Nat) (a:Int):Decidable (argOk f fm k a):=by unfold argOk;infer_instance
theorem all_at{l:List Int}{P:Nat→Int→Prop}(h:∀k,k<l.length→P k (l.getD k 0))(k:Nat)(n:Int)(e:l[k]? =some n):P k n:=by
 obtain⟨hk,rfl⟩:=List.getElem?_eq_some_iff.1 e;have:=h k hk
 rwa [List.getD_eq_getElem?_getD,e]at this
section
variable (a b n:Int)
theorem sw_stands:Stands (swF a b n) swB swQ:=by
 have h1:∀c,c<(swF a b n).blocks.length→∀k,k<(allN (bkAt (swF a b n) c)).length→StAt (swF a b n) swB swQ c k ((allN (bkAt (swF a b n) c)).getD k 0):=of_decide_eq_true (by kernel_rfl);have h2:∀i,i<(swF a b n).nodes.length→(swB.getD i 0).toNat<(swF a b n).blocks.length∧(allN (bkAt (swF a b n) (swB.getD i 0).toNat))[(swQ.getD i 0).toNat]? =some (i:Int):=of_decide_eq_true (by kernel_rfl);exact⟨rfl,rfl,fun c k m hc hm=>all_at (P:=fun k m=>StAt (swF a b n) swB swQ c k m) (h1 c hc) k m hm,fun i hi=>⟨_,_,(h2 i hi).1,(h2 i hi).2⟩⟩
def sE4:Nat→Nat→Prop:=EI [[1],[2,3],[1],[]]
theorem sw_gr:EI (grF (swF a b n))=sE4:=rfl
theorem sw1:Reach sE4 1:=.step .zero (p:=0) ⟨by decide,by decide⟩
theorem sw_reach{c:Nat}(hc:c<4):Reach sE4 c:=by
 match c,hc with
 |0,_=>exact .zero
 |1,_=>exact sw1
 |2,_=>exact .step sw1 (p:=1) ⟨by decide,by decide⟩
 |3,_=>exact .step sw1 (p:=1) ⟨by decide,by decide⟩
theorem sw_avoid{k:Nat}(h:Avoid sE4 1 k):k=0:=by
 induction h with
 |zero _=>rfl
 | @step p k _ e hn ih=>
   subst ih;have h2:k∈([1]:List Nat):=by
    have:=e.2
    revert this
    match k with
    |0=>decide
    |1=>decide
    |2=>decide
    |3=>decide
    |k+4=>exact fun q=>by simp at q;omega
   simp at h2;exact absurd h2 hn
def domB(c d:Nat):Bool:=c==0||c==d||c==1&&d != 0
theorem sw_dom{c d:Nat}(hd:d<4)(h:domB c d=true):Dm sE4 c d:=by
 refine⟨sw_reach hd,fun hA=>?_⟩;have hne:(c==d)=false:=by simpa using hA.ne
 unfold domB at h;rw[hne]at h;rcases Nat.lt_or_ge c 1 with h1|h1
 ·obtain rfl:c=0:=by omega
  exact not_avoid_zero hA
 ·rcases Nat.lt_or_ge c 2 with h2|h2
  ·obtain rfl:c=1:=by omega
   have:=sw_avoid hA;subst this;simp at h
  ·have e0:(c==0)=false:=by simp;omega
   have e1:(c==1)=false:=by simp;omega
   rw[e0,e1]at h;simp at h
theorem sw_blocks:BlocksOk (swF a b n):=by
 have h1:∀c,c<(swF a b n).blocks.length→(bkAt (swF a b n) c).body≠[]∧∀k,k<(bkAt (swF a b n) c).body.length→endAt (swF a b n) (bkAt (swF a b n) c) k ((bkAt (swF a b n) c).body.getD k 0):=of_decide_eq_true (by kernel_rfl);have h2:∀c,c<(swF a b n).blocks.length→(∀s∈(bkAt (swF a b n) c).succ,0≤s∧s<(swF a b n).blocks.length)∧(bkAt (swF a b n) c).succ.Nodup∧(bkAt (swF a b n) c).preds=pdsTo (swF a b n) (swF a b n).blocks.length c:=of_decide_eq_true (by kernel_rfl);exact⟨fun c hc=>⟨(h1 c hc).1,all_at (P:=fun k m=>endAt (swF a b n) (bkAt (swF a b n) c) k m) (h1 c hc).2⟩,fun c hc=>⟨(h2 c hc).1,(h2 c hc).2.1⟩,fun c hc=>(h2 c hc).2.2,fun c hc=>sw_reach hc,rfl,rfl⟩
def formB(f:Fn)(x:Nd)(fm:Form):Prop:=x.kind=fm.kind∧x.args.length=fm.args.size∧(fm.a=false→x.a=0)∧(fm.b=false→x.b=0)∧(fm.n=false→x.n=0)∧(if fm.st=true then inB x.st f.states.length=true else x.st= -1)∧∀k,k<x.args.length→argOk f fm k (x.args.getD k 0)
instance formDec (f:Fn) (x:Nd) (fm:Form):Decidable (formB f x fm):=by unfold formB;infer_instance
def nodeB(p:Prg)(f:Fn)(blk:List Int)(i:Nat):Bool:=match formF p f blk i with |some fm=>decide (formB f (ndAt f i) fm)|none=>false
theorem node_of{p:Prg}{f:Fn}{blk:List Int}{i:Nat}(h:nodeB p f blk i=true):nodeOk p f blk i:=by
 unfold nodeB at h;split at h
 ·rename_i fm e;obtain⟨h1,h2,h3,h4,h5,h6,h7⟩:=of_decide_eq_true h;exact⟨fm,e,h1,h2,h3,h4,h5,h6,all_at h7⟩
 ·cases h
theorem sw_nodes:nodesOk swP (swF a b n) swB:=by
 have h:∀i,i<(swF a b n).nodes.length→nodeB swP (swF a b n) swB i=true:=of_decide_eq_true (by kernel_rfl);exact fun i hi=>node_of (h i hi)
def abvB2(f:Fn)(blk plc:List Int)(i k:Nat)(x:Int):Prop:=
 if(ndAt f i).op=41 then((bkAt f (blk.getD i 0).toNat).preds.getD k 0).toNat<4∧domB (blk.getD x.toNat 0).toNat ((bkAt f (blk.getD i 0).toNat).preds.getD k 0).toNat=true
 else if blk.getD x.toNat 0=blk.getD i 0 then plc.getD x.toNat 0<plc.getD i 0 else(blk.getD i 0).toNat<4∧domB (blk.getD x.toNat 0).toNat (blk.getD i 0).toNat=true
instance abvDec (f:Fn) (blk plc:List Int) (i k:Nat) (x:Int):Decidable (abvB2 f blk plc i k x):=by unfold abvB2;infer_instance
theorem sw_stds:standsOk (swF a b n) swB swQ:=by
 have h:∀i,i<(swF a b n).nodes.length→∀k,k<(ndAt (swF a b n) i).args.length→abvB2 (swF a b n) swB swQ i k ((ndAt (swF a b n) i).args.getD k 0):=of_decide_eq_true (by kernel_rfl);intro i hi k x hx;have h2:=all_at (P:=fun k x=>abvB2 (swF a b n) swB swQ i k x) (h i hi) k x hx;unfold argAbv abvN;rw[sw_gr];simp only[abvB2]at h2;split at h2
 ·rename_i h41;rw[if_pos h41];exact sw_dom h2.1 h2.2
 ·rename_i h41;rw[if_neg h41];split at h2
  ·rename_i e;rw[if_pos e];exact h2
  ·rename_i e;rw[if_neg e];exact sw_dom h2.1 h2.2
theorem sw_core:coreOk swP (swF a b n):=⟨swB,swQ,sw_stands a b n,sw_blocks a b n,sw_nodes a b n,sw_stds a b n⟩
theorem sw_st(i:Nat)(hi:i<(swF a b n).nodes.length)(h:0≤(ndAt (swF a b n) i).st):i=11:=by
 have h2:∀i,i<(swF a b n).nodes.length→0≤(ndAt (swF a b n) i).st→i=11:=of_decide_eq_true (by kernel_rfl);exact h2 i hi h
theorem sw_top:TopE swP swVs (swF a b n) 0:=by
 refine⟨_,.top (by show 0<1;decide) (by show(-1:Int)<0;decide),.top ⟨fun h=>absurd h (by decide),?_,fun k hk=>(by cases hk),fun k hk=>?_⟩ (by show(-1:Int)<0;decide),fun v hv=>(by cases hv),fun k hk=>(by cases hk)⟩
 ·unfold wantF;rw[if_neg (by decide)]
  kernel_rfl
 ·unfold wantF;rw[if_neg (by decide)];have hk':k<1:=hk
  match k,hk' with
  |0,_=>exact(show slotB (swF a b n) 3 sI 0=true by kernel_rfl)
theorem sw_states:stOk swP swVs (swF a b n):=by
 refine⟨swB,swQ,sw_stands a b n,⟨fun i hi h=>?_,fun i hi h=>?_⟩⟩
 ·cases sw_st a b n i hi h;exact⟨by kernel_rfl,sw_top a b n⟩
 ·cases sw_st a b n i hi h;refine⟨fun m hm h0=>?_,by kernel_rfl⟩;have e:namOf (swF a b n) 11=[3]:=by kernel_rfl
  rw[e]at hm;cases List.mem_singleton.1 hm;unfold abvN;rw[sw_gr,if_neg (by decide)];exact sw_dom (by decide) (by decide)
theorem sw_hyp:SHyp swP swVs (swF a b n):=by
 refine⟨sw_pin,sw_vers,fun j=>?_⟩
 match j with
 |0=>exact⟨⟨by show 0≤_;decide,by show 1≤_;decide,by show 0≤_;decide⟩,⟨fun x hx=>(by cases hx),fun x hx=>by cases List.mem_singleton.1 hx;decide⟩,fun k hk=>by cases hk⟩
 |j+1=>exact⟨⟨by show 0≤_;decide,by show 0≤_;decide,by show 0≤_;decide⟩,⟨fun x hx=>(by cases hx),fun x hx=>by cases hx⟩,fun k hk=>by cases hk⟩
theorem sw_ck:ckG swP swVs (swF a b n)=0:=by
 unfold ckG;rw[if_neg (by show¬(4<1∨500<4∨4000<15∨4000<1);decide),if_pos (dec_t ⟨by kernel_rfl,sw_core a b n⟩),if_pos (dec_t (sw_states a b n))]
end
theorem BodyRun.go{f:Fn}{bk:Bk}{n:Int}{r:List Int}{o o1 o':OnV}{x x1 x':RX}{v v1 v':List AV}(h0:0≤n)(hb:0≤x.nds∧x.nds+1≤4194304)(hn:NdIn f bk (nx x) n.toNat)(e:nodeF f bk (nx x) v n.toNat=(x1,v1,o1))(ho:o1.over=false)(h:BodyRun f bk r o1 x1 v1 x' v' o'):BodyRun f bk (n::r) o x v x' v' o':=by
 refine .next h0 hb hn (by rw[e];exact ho) ?_;rw[e];exact h
theorem BodyRun.stop{f:Fn}{bk:Bk}{n:Int}{r:List Int}{o o1:OnV}{x x1:RX}{v v1:List AV}(h0:0≤n)(hb:0≤x.nds∧x.nds+1≤4194304)(hn:NdIn f bk (nx x) n.toNat)(e:nodeF f bk (nx x) v n.toNat=(x1,v1,o1))(ho:o1.over=true):BodyRun f bk (n::r) o x v x1 v1 o1:=by
 have:=BodyRun.over (r:=r) (o:=o) (v:=v) h0 hb hn (by rw[e];exact ho)
 rwa [e]at this
def ndS(f:Fn)(bk:Bk)(i:Nat):Prop:=i<f.nodes.length∧f.nodes.length≤4000∧(∀a∈(ndAt f i).args,0≤a∧a<f.nodes.length)∧(ndAt f i).args.length≤1000∧(((ndAt f i).op=45∧1≤bk.succ.length∧(ndAt f i).st<0)∨((ndAt f i).op=46∧2≤bk.succ.length∧(ndAt f i).args.length=1∧(ndAt f i).st<0)∨((ndAt f i).op=47∧(ndAt f i).args.length=1∧(ndAt f i).st<0)∨((ndAt f i).op=42∧0≤(ndAt f i).st∧(ndAt f i).st<f.states.length)∨((ndAt f i).op=1∧(ndAt f i).st<0)∨(((ndAt f i).op=8∨(ndAt f i).op=19)∧(ndAt f i).args.length=2∧(ndAt f i).st<0))
instance ndSDec (f:Fn) (bk:Bk) (i:Nat):Decidable (ndS f bk i):=by unfold ndS;infer_instance
abbrev RngX(x:RX):Prop:=0≤x.fuel∧x.fuel≤2000∧0≤x.pts∧x.pts≤10000000
theorem ndS.in{f:Fn}{bk:Bk}{i:Nat}(h:ndS f bk i){x:RX}(r:RngX x):NdIn f bk x i:=⟨h.1,h.2.1,h.2.2.1,h.2.2.2.1,h.2.2.2.2,r⟩
def swV(a b n x y i c t:Int):List AV:=[(false,a),(false,b),(false,0),(false,1),(false,n),(false,0),(false,x),(false,y),(false,i),(false,c),(false,0),(false,0),(false,t),(false,0),(false,0)]
def sx(a b:Int)(k:Nat):Int:=if k%2=0 then a else b
theorem sx_next(a b:Int)(k:Nat):sx a b (k+1)=sx b a k:=by
 unfold sx
 by_cases h:k%2=0
 ·rw[if_neg (by omega),if_pos h]
 ·rw[if_pos (by omega),if_neg h]
section
variable (a b n:Int)
theorem sw_nd:∀c,c<4→∀m∈(bkAt (swF a b n) c).body,0≤m∧ndS (swF a b n) (bkAt (swF a b n) c) m.toNat:=of_decide_eq_true (by kernel_rfl)
theorem sw_bk:∀c,c<4→(bkAt (swF a b n) c).body.length≤4000∧(bkAt (swF a b n) c).preds.length≤4000:=of_decide_eq_true (by kernel_rfl)
theorem sw_bkin{c:Nat}(hc:c<4):BkIn (swF a b n) (bkAt (swF a b n) c):=⟨(sw_bk a b n c hc).1,(sw_bk a b n c hc).2⟩
theorem sw_phi{last:Int}(h:last=0∨last=2){x:RX}(hx:0≤x.nds∧x.nds≤10000000):PhiOk (swF a b n) (bkAt (swF a b n) 1) last x:=by
 intro _;rcases h with rfl|rfl
 ·exact⟨by show(0:Int)∈[0,2];decide,⟨of_decide_eq_true (by kernel_rfl),of_decide_eq_true (by kernel_rfl),of_decide_eq_true (by kernel_rfl),hx⟩⟩
 ·exact⟨by show(2:Int)∈[0,2];decide,⟨of_decide_eq_true (by kernel_rfl),of_decide_eq_true (by kernel_rfl),of_decide_eq_true (by kernel_rfl),hx⟩⟩
theorem phi_no{f:Fn}{bk:Bk}{last:Int}{x:RX}(h:bk.phis=[]):PhiOk f bk last x:=fun q=>absurd h q
theorem phiX_no{bk:Bk}{x:RX}(h:bk.phis=[]):phiX bk x=x:=by unfold phiX;rw[h];simp
theorem phiV_no{f:Fn}{bk:Bk}{last:Int}{v:List AV}(h:bk.phis=[]):phiV f bk last v=v:=by unfold phiV;rw[h];rfl
def swX(F:Int)(k:Nat):RX:=⟨F-k,1,0,0,0,0,0,k,0,6+8*k⟩
def SwEnd(a b:Int)(N:Nat)(F:Int)(X:RX)(v:AV)(r:Bool):Prop:=
 X.depth=1∧X.dns=0∧(F<N→r=false∧X.kind=3∧X.trap=0∧X.mth=0∧X.pc=1∧X.val=0∧X.pts=F+1)∧(¬F<N→r=true∧v.2=sx a b N∧X.trap=0∧X.mth=0∧X.pc=0∧X.pts=N)
theorem sw_loop(N:Nat)(F:Int)(hN:N≤127)(hF:0≤F∧F≤255):∀(d k:Nat) (last:Int) (V:List AV) (c t:Int),k+d=N→k≤F→(last=0∨last=2)→phiV (swF a b N) (bkAt (swF a b N) 1) last V=swV a b N (sx a b k) (sx b a k) k c t→
 ∃m X v r,FunRun (swF a b N) m last 1 (swX F k) V X v r∧SwEnd a b N F X v r:=by
 intro d;induction d with
 |zero=>
  intro k last V c t hk hkF hl hV;obtain rfl:k=N:=by omega
  have r1:∀z,RngX ⟨F-k,1,0,0,0,0,0,k,0,z⟩:=fun z=>⟨by show 0≤F-k;omega,by show F-k≤2000;omega,by show(0:Int)≤k;omega,by show(k:Int)≤10000000;omega⟩
  have hd:=sw_nd a b k;have e9:nodeF (swF a b k) (bkAt (swF a b k) 1) (nx (phiX (bkAt (swF a b k) 1) (swX F k))) (swV a b k (sx a b k) (sx b a k) k c t) 9=(nx (phiX (bkAt (swF a b k) 1) (swX F k)),swV a b k (sx a b k) (sx b a k) k (twoF 19 k k) t,{}):=by kernel_rfl
  rw[show twoF 19 (k:Int) k=0 by unfold twoF;rw[if_neg (by decide),if_neg (by omega)]]at e9;have e10:nodeF (swF a b k) (bkAt (swF a b k) 1) (nx (nx (phiX (bkAt (swF a b k) 1) (swX F k)))) (swV a b k (sx a b k) (sx b a k) k 0 t) 10=(nx (nx (phiX (bkAt (swF a b k) 1) (swX F k))),swV a b k (sx a b k) (sx b a k) k 0 t,{blk:=3}):=by kernel_rfl
  have e14:nodeF (swF a b k) (bkAt (swF a b k) 3) (nx (nx (nx (phiX (bkAt (swF a b k) 1) (swX F k))))) (swV a b k (sx a b k) (sx b a k) k 0 t) 14=(nx (nx (nx (phiX (bkAt (swF a b k) 1) (swX F k)))),swV a b k (sx a b k) (sx b a k) k 0 t,{over:=true,is:=true,val:=(false,sx a b k)}):=by kernel_rfl
  have hB1:BodyRun (swF a b k) (bkAt (swF a b k) 1) (bkAt (swF a b k) 1).body {blk:= -1} (phiX (bkAt (swF a b k) 1) (swX F k)) (phiV (swF a b k) (bkAt (swF a b k) 1) last V) (nx (nx (phiX (bkAt (swF a b k) 1) (swX F k)))) (swV a b k (sx a b k) (sx b a k) k 0 t) {blk:=3}:=by
   rw[hV];refine .go (n:=9) (by decide) ⟨by show(0:Int)≤6+8*k+3;omega,by show(6:Int)+8*k+3+1≤4194304;omega⟩ ((hd 1 (by decide) 9 (of_decide_eq_true (by kernel_rfl))).2.in (r1 _)) e9 rfl ?_;refine .go (n:=10) (by decide) ⟨by show(0:Int)≤6+8*k+3+1;omega,by show(6:Int)+8*k+3+1+1≤4194304;omega⟩ ((hd 1 (by decide) 10 (of_decide_eq_true (by kernel_rfl))).2.in (r1 _)) e10 rfl .nil
  have hB3:BodyRun (swF a b k) (bkAt (swF a b k) 3) (bkAt (swF a b k) 3).body {blk:= -1} (phiX (bkAt (swF a b k) 3) (nx (nx (phiX (bkAt (swF a b k) 1) (swX F k))))) (phiV (swF a b k) (bkAt (swF a b k) 3) 1 (swV a b k (sx a b k) (sx b a k) k 0 t)) (nx (nx (nx (phiX (bkAt (swF a b k) 1) (swX F k))))) (swV a b k (sx a b k) (sx b a k) k 0 t) {over:=true,is:=true,val:=(false,sx a b k)}:=by
   rw[phiX_no rfl,phiV_no rfl];exact .stop (n:=14) (by decide) ⟨by show(0:Int)≤6+8*k+3+1+1;omega,by show(6:Int)+8*k+3+1+1+1≤4194304;omega⟩ ((hd 3 (by decide) 14 (of_decide_eq_true (by kernel_rfl))).2.in (r1 _)) e14 rfl
  refine⟨_,_,_,_,.on (by show 1<4;decide) (sw_bkin a b k (by decide)) (sw_phi a b k hl ⟨by show(0:Int)≤6+8*k;omega,by show(6:Int)+8*k≤10000000;omega⟩) hB1 rfl (by decide) (.done (by show 3<4;decide) (sw_bkin a b k (by decide)) (phi_no rfl) hB3 rfl),rfl,rfl,fun h=>by omega,fun _=>⟨rfl,rfl,rfl,rfl,rfl,rfl⟩⟩
 |succ d ih=>
  intro k last V c t hk hkF hl hV;have hkN:(k:Int)<N:=by omega
  have r1:∀z,RngX ⟨F-k,1,0,0,0,0,0,k,0,z⟩:=fun z=>⟨by show 0≤F-k;omega,by show F-k≤2000;omega,by show(0:Int)≤k;omega,by show(k:Int)≤10000000;omega⟩
  have hd:=sw_nd a b N;have e9:nodeF (swF a b N) (bkAt (swF a b N) 1) (nx (phiX (bkAt (swF a b N) 1) (swX F k))) (swV a b N (sx a b k) (sx b a k) k c t) 9=(nx (phiX (bkAt (swF a b N) 1) (swX F k)),swV a b N (sx a b k) (sx b a k) k (twoF 19 k N) t,{}):=by kernel_rfl
  rw[show twoF 19 (k:Int) N=1 by unfold twoF;rw[if_neg (by decide),if_pos hkN]]at e9;have e10:nodeF (swF a b N) (bkAt (swF a b N) 1) (nx (nx (phiX (bkAt (swF a b N) 1) (swX F k)))) (swV a b N (sx a b k) (sx b a k) k 1 t) 10=(nx (nx (phiX (bkAt (swF a b N) 1) (swX F k))),swV a b N (sx a b k) (sx b a k) k 1 t,{blk:=2}):=by kernel_rfl
  have hB1:BodyRun (swF a b N) (bkAt (swF a b N) 1) (bkAt (swF a b N) 1).body {blk:= -1} (phiX (bkAt (swF a b N) 1) (swX F k)) (phiV (swF a b N) (bkAt (swF a b N) 1) last V) (nx (nx (phiX (bkAt (swF a b N) 1) (swX F k)))) (swV a b N (sx a b k) (sx b a k) k 1 t) {blk:=2}:=by
   rw[hV];refine .go (n:=9) (by decide) ⟨by show(0:Int)≤6+8*k+3;omega,by show(6:Int)+8*k+3+1≤4194304;omega⟩ ((hd 1 (by decide) 9 (of_decide_eq_true (by kernel_rfl))).2.in (r1 _)) e9 rfl ?_;refine .go (n:=10) (by decide) ⟨by show(0:Int)≤6+8*k+3+1;omega,by show(6:Int)+8*k+3+1+1≤4194304;omega⟩ ((hd 1 (by decide) 10 (of_decide_eq_true (by kernel_rfl))).2.in (r1 _)) e10 rfl .nil
  have hP:=sw_phi a b N hl (x:=swX F k) ⟨by show(0:Int)≤6+8*k;omega,by show(6:Int)+8*k≤10000000;omega⟩
  by_cases hz:F-k=0
  ·have e11:nodeF (swF a b N) (bkAt (swF a b N) 2) (nx (nx (nx (phiX (bkAt (swF a b N) 1) (swX F k))))) (swV a b N (sx a b k) (sx b a k) k 1 t) 11=(⟨0,1,3,0,0,1,0,k+1,0,6+8*k+3+1+1+1⟩,swV a b N (sx a b k) (sx b a k) k 1 t,{over:=true}):=by
    have h:nodeF (swF a b N) (bkAt (swF a b N) 2) (nx (nx (nx (phiX (bkAt (swF a b N) 1) (swX F k))))) (swV a b N (sx a b k) (sx b a k) k 1 t) 11=(burnX ⟨F-k,1,0,0,0,0,0,k+1,0,6+8*k+3+1+1+1⟩ 0 1,swV a b N (sx a b k) (sx b a k) k 1 t,{over:=decide (F-k=0)}):=by kernel_rfl
    rw[h,hz];rfl
   have hB2:BodyRun (swF a b N) (bkAt (swF a b N) 2) (bkAt (swF a b N) 2).body {blk:= -1} (phiX (bkAt (swF a b N) 2) (nx (nx (phiX (bkAt (swF a b N) 1) (swX F k))))) (phiV (swF a b N) (bkAt (swF a b N) 2) 1 (swV a b N (sx a b k) (sx b a k) k 1 t)) ⟨0,1,3,0,0,1,0,k+1,0,6+8*k+3+1+1+1⟩ (swV a b N (sx a b k) (sx b a k) k 1 t) {over:=true}:=by
    rw[phiX_no rfl,phiV_no rfl];exact .stop (n:=11) (by decide) ⟨by show(0:Int)≤6+8*k+3+1+1;omega,by show(6:Int)+8*k+3+1+1+1≤4194304;omega⟩ ((hd 2 (by decide) 11 (of_decide_eq_true (by kernel_rfl))).2.in (r1 _)) e11 rfl
   exact⟨_,_,_,_,.on (by show 1<4;decide) (sw_bkin a b N (by decide)) hP hB1 rfl (by decide) (.done (by show 2<4;decide) (sw_bkin a b N (by decide)) (phi_no rfl) hB2 rfl),rfl,rfl,fun _=>⟨rfl,rfl,rfl,rfl,rfl,rfl,by show(k:Int)+1=F+1;omega⟩,fun h=>by omega⟩
  ·have e11:nodeF (swF a b N) (bkAt (swF a b N) 2) (nx (nx (nx (phiX (bkAt (swF a b N) 1) (swX F k))))) (swV a b N (sx a b k) (sx b a k) k 1 t) 11=(⟨F-k-1,1,0,0,0,0,0,k+1,0,6+8*k+3+1+1+1⟩,swV a b N (sx a b k) (sx b a k) k 1 t,{}):=by
    have h:nodeF (swF a b N) (bkAt (swF a b N) 2) (nx (nx (nx (phiX (bkAt (swF a b N) 1) (swX F k))))) (swV a b N (sx a b k) (sx b a k) k 1 t) 11=(burnX ⟨F-k,1,0,0,0,0,0,k+1,0,6+8*k+3+1+1+1⟩ 0 1,swV a b N (sx a b k) (sx b a k) k 1 t,{over:=decide (F-k=0)}):=by kernel_rfl
    rw[h,decide_eq_false hz];unfold burnX;rw[if_neg hz]
   have r2:∀z,RngX ⟨F-k-1,1,0,0,0,0,0,k+1,0,z⟩:=fun z=>⟨by show 0≤F-k-1;omega,by show F-k-1≤2000;omega,by show(0:Int)≤k+1;omega,by show(k:Int)+1≤10000000;omega⟩
   have e12:nodeF (swF a b N) (bkAt (swF a b N) 2) (nx ⟨F-k-1,1,0,0,0,0,0,k+1,0,6+8*k+3+1+1+1⟩) (swV a b N (sx a b k) (sx b a k) k 1 t) 12=(⟨F-k-1,1,0,0,0,0,0,k+1,0,6+8*k+3+1+1+1+1⟩,swV a b N (sx a b k) (sx b a k) k 1 (twoF 8 k 1),{}):=by kernel_rfl
   rw[show twoF 8 (k:Int) 1=((k+1:Nat):Int) by unfold twoF wrap64;rw[if_pos rfl];omega]at e12;have e13:nodeF (swF a b N) (bkAt (swF a b N) 2) (nx ⟨F-k-1,1,0,0,0,0,0,k+1,0,6+8*k+3+1+1+1+1⟩) (swV a b N (sx a b k) (sx b a k) k 1 (k+1:Nat)) 13=(⟨F-k-1,1,0,0,0,0,0,k+1,0,6+8*k+3+1+1+1+1+1⟩,swV a b N (sx a b k) (sx b a k) k 1 (k+1:Nat),{blk:=1}):=by kernel_rfl
   have hB2:BodyRun (swF a b N) (bkAt (swF a b N) 2) (bkAt (swF a b N) 2).body {blk:= -1} (phiX (bkAt (swF a b N) 2) (nx (nx (phiX (bkAt (swF a b N) 1) (swX F k))))) (phiV (swF a b N) (bkAt (swF a b N) 2) 1 (swV a b N (sx a b k) (sx b a k) k 1 t)) ⟨F-k-1,1,0,0,0,0,0,k+1,0,6+8*k+3+1+1+1+1+1⟩ (swV a b N (sx a b k) (sx b a k) k 1 (k+1:Nat)) {blk:=1}:=by
    rw[phiX_no rfl,phiV_no rfl];refine .go (n:=11) (by decide) ⟨by show(0:Int)≤6+8*k+3+1+1;omega,by show(6:Int)+8*k+3+1+1+1≤4194304;omega⟩ ((hd 2 (by decide) 11 (of_decide_eq_true (by kernel_rfl))).2.in (r1 _)) e11 rfl ?_;refine .go (n:=12) (by decide) ⟨by show(0:Int)≤6+8*k+3+1+1+1;omega,by show(6:Int)+8*k+3+1+1+1+1≤4194304;omega⟩ ((hd 2 (by decide) 12 (of_decide_eq_true (by kernel_rfl))).2.in (r2 _)) e12 rfl ?_;exact .go (n:=13) (by decide) ⟨by show(0:Int)≤6+8*k+3+1+1+1+1;omega,by show(6:Int)+8*k+3+1+1+1+1+1≤4194304;omega⟩ ((hd 2 (by decide) 13 (of_decide_eq_true (by kernel_rfl))).2.in (r2 _)) e13 rfl .nil
   have hV2:phiV (swF a b N) (bkAt (swF a b N) 1) 2 (swV a b N (sx a b k) (sx b a k) k 1 (k+1:Nat))=swV a b N (sx a b (k+1)) (sx b a (k+1)) (k+1:Nat) 1 (k+1:Nat):=by
    rw[sx_next,sx_next];kernel_rfl
   obtain⟨m,X,v,r,hR,hE⟩:=ih (k+1) 2 _ 1 (k+1:Nat) (by omega) (by omega) (.inr rfl) hV2;rw[show swX F (k+1)=⟨F-k-1,1,0,0,0,0,0,k+1,0,6+8*k+3+1+1+1+1+1⟩ by unfold swX;congr 1<;>omega]at hR;exact⟨_,X,v,r,.on (by show 1<4;decide) (sw_bkin a b N (by decide)) hP hB1 rfl (by decide) (.on (by show 2<4;decide) (sw_bkin a b N (by decide)) (phi_no rfl) hB2 rfl (by decide) hR),hE⟩
theorem sw_run(N:Nat)(F:Int)(hN:N≤127)(hF:0≤F∧F≤255):
 ∃m X v r,FunRun (swF a b N) m (-1) 0 ⟨F,1,0,0,0,0,0,0,0,0⟩ (List.replicate (swF a b N).nodes.length (false,0)) X v r∧SwEnd a b N F X v r:=by
 have r1:∀z,RngX ⟨F,1,0,0,0,0,0,0,0,z⟩:=fun z=>⟨hF.1,by show F≤2000;omega,by show(0:Int)≤0;decide,by show(0:Int)≤10000000;decide⟩
 have hd:=sw_nd a b N;have hB0:BodyRun (swF a b N) (bkAt (swF a b N) 0) (bkAt (swF a b N) 0).body {blk:= -1} (phiX (bkAt (swF a b N) 0) ⟨F,1,0,0,0,0,0,0,0,0⟩) (phiV (swF a b N) (bkAt (swF a b N) 0) (-1) (List.replicate (swF a b N).nodes.length (false,0))) ⟨F,1,0,0,0,0,0,0,0,6⟩ (swV a b N 0 0 0 0 0) {blk:=1}:=by
  rw[phiX_no rfl,phiV_no rfl];refine .go (n:=0) (x1:=⟨F,1,0,0,0,0,0,0,0,1⟩) (v1:=(List.replicate 15 (false,0)).set 0 (false,a)) (o1:={}) (by decide) ⟨of_decide_eq_true (by kernel_rfl),of_decide_eq_true (by kernel_rfl)⟩ ((hd 0 (by decide) 0 (of_decide_eq_true (by kernel_rfl))).2.in (r1 _)) (by kernel_rfl) rfl ?_;refine .go (n:=1) (x1:=⟨F,1,0,0,0,0,0,0,0,2⟩) (v1:=((List.replicate 15 (false,0)).set 0 (false,a)).set 1 (false,b)) (o1:={}) (by decide) ⟨of_decide_eq_true (by kernel_rfl),of_decide_eq_true (by kernel_rfl)⟩ ((hd 0 (by decide) 1 (of_decide_eq_true (by kernel_rfl))).2.in (r1 _)) (by kernel_rfl) rfl ?_;refine .go (n:=2) (x1:=⟨F,1,0,0,0,0,0,0,0,3⟩) (v1:=((List.replicate 15 (false,0)).set 0 (false,a)).set 1 (false,b)) (o1:={}) (by decide) ⟨of_decide_eq_true (by kernel_rfl),of_decide_eq_true (by kernel_rfl)⟩ ((hd 0 (by decide) 2 (of_decide_eq_true (by kernel_rfl))).2.in (r1 _)) (by kernel_rfl) rfl ?_;refine .go (n:=3) (x1:=⟨F,1,0,0,0,0,0,0,0,4⟩) (v1:=(((List.replicate 15 (false,0)).set 0 (false,a)).set 1 (false,b)).set 3 (false,1)) (o1:={}) (by decide) ⟨of_decide_eq_true (by kernel_rfl),of_decide_eq_true (by kernel_rfl)⟩ ((hd 0 (by decide) 3 (of_decide_eq_true (by kernel_rfl))).2.in (r1 _)) (by kernel_rfl) rfl ?_;refine .go (n:=4) (x1:=⟨F,1,0,0,0,0,0,0,0,5⟩) (v1:=swV a b N 0 0 0 0 0) (o1:={}) (by decide) ⟨of_decide_eq_true (by kernel_rfl),of_decide_eq_true (by kernel_rfl)⟩ ((hd 0 (by decide) 4 (of_decide_eq_true (by kernel_rfl))).2.in (r1 _)) (by kernel_rfl) rfl ?_;exact .go (n:=5) (x1:=⟨F,1,0,0,0,0,0,0,0,6⟩) (v1:=swV a b N 0 0 0 0 0) (o1:={blk:=1}) (by decide) ⟨of_decide_eq_true (by kernel_rfl),of_decide_eq_true (by kernel_rfl)⟩ ((hd 0 (by decide) 5 (of_decide_eq_true (by kernel_rfl))).2.in (r1 _)) (by kernel_rfl) rfl .nil
 have hV:phiV (swF a b N) (bkAt (swF a b N) 1) 0 (swV a b N 0 0 0 0 0)=swV a b N (sx a b 0) (sx b a 0) (0:Nat) 0 0:=by kernel_rfl
 obtain⟨m,X,v,r,hR,hE⟩:=sw_loop a b N F hN hF N 0 0 _ 0 0 (by omega) (by show((0:Nat):Int)≤F;omega) (.inl rfl) hV;rw[show swX F 0=⟨F,1,0,0,0,0,0,0,0,6⟩ by unfold swX;simp]at hR;exact⟨_,X,v,r,.on (by show 0<4;decide) (sw_bkin a b N (by decide)) (phi_no rfl) hB0 rfl (by decide) hR,hE⟩
end
theorem one_run:FunRun oneFn 0 (-1) 0 ⟨5,1,0,0,0,0,0,0,0,0⟩ (List.replicate oneFn.nodes.length (false,0)) ⟨5,1,0,0,0,0,0,0,0,2⟩ (false,1) true:=by
 have r1:∀z,RngX ⟨5,1,0,0,0,0,0,0,0,z⟩:=fun z=>⟨of_decide_eq_true (by kernel_rfl),of_decide_eq_true (by kernel_rfl),of_decide_eq_true (by kernel_rfl),of_decide_eq_true (by kernel_rfl)⟩
 have hd:∀m∈(bkAt oneFn 0).body,0≤m∧ndS oneFn (bkAt oneFn 0) m.toNat:=of_decide_eq_true (by kernel_rfl);have hB:BodyRun oneFn (bkAt oneFn 0) (bkAt oneFn 0).body {blk:= -1} (phiX (bkAt oneFn 0) ⟨5,1,0,0,0,0,0,0,0,0⟩) (phiV oneFn (bkAt oneFn 0) (-1) (List.replicate oneFn.nodes.length (false,0))) ⟨5,1,0,0,0,0,0,0,0,2⟩ [(false,1),(false,0)] {over:=true,is:=true,val:=(false,1)}:=by
  rw[phiX_no rfl,phiV_no rfl];refine .go (n:=0) (x1:=⟨5,1,0,0,0,0,0,0,0,1⟩) (v1:=[(false,1),(false,0)]) (o1:={}) (by decide) ⟨by decide,by decide⟩ ((hd 0 (by decide)).2.in (r1 _)) (by kernel_rfl) rfl ?_;exact .stop (n:=1) (by decide) ⟨by decide,by decide⟩ ((hd 1 (by decide)).2.in (r1 _)) (by kernel_rfl) rfl
 exact .done (by decide) ⟨by decide,by decide⟩ (phi_no rfl) hB rfl
def oneL(g:Nat):List NB:=[(24,#[.int .i64 1,.int .i64 0,.int .i64 0,.int .i64 1,.int .i64 33,.int .i64 0,.int .i64 0,.int .i64 0]),(27,#[.string ⟨#[]⟩,.string ⟨#[]⟩,.string ⟨#[73]⟩,.slice (some ⟨g,0,none⟩) 2 2]),(31,#[.slice none 0 0,.slice (some ⟨g+1,0,none⟩) 1 1]),(3,#[.int .i64 0]),(40,#[.int .i64 1,.int .i64 0,.int .i64 0,.int .i64 (-1),.string ⟨#[73]⟩,.int .i64 1,.slice none 0 0,.int .i64 47,.int .i64 0,.int .i64 0,.int .i64 (-1),.string ⟨#[]⟩,.int .i64 0,.slice (some ⟨g+1+1+1,0,none⟩) 1 1]),(3,#[.int .i64 0,.int .i64 1]),(43,#[.slice none 0 0,.slice (some ⟨g+1+1+1+1+1,0,none⟩) 2 2,.slice none 0 0,.slice none 0 0]),(50,#[.int .i64 0,.int .i64 0,.slice (some ⟨g+1+1+1+1,0,none⟩) 2 2,.slice (some ⟨g+1+1+1+1+1+1,0,none⟩) 1 1,.slice none 0 0])]
theorem oneL_p{w:World}{g B:Nat}(h:Blks w g (oneL g))(hB:g+8≤B):RdP w B none (some ⟨g+1,0,none⟩) oneP:=by
 obtain⟨b0,b1,b2,b3,b4,b5,b6,b7,-⟩:=h;exact⟨⟨rfl,fun h=>by cases h⟩,RdMs.one (A1:=(some ⟨g,0,none⟩)) (c1:=2) (Blk.rd (xs:=mcell ((⟨sE,sE,sI,[⟨1,0,0,1⟩,⟨33,0,0,0⟩]⟩:Mth),((some ⟨g,0,none⟩),2))) b1 rfl (by omega)) (Blk.rd (xs:=icells ((⟨sE,sE,sI,[⟨1,0,0,1⟩,⟨33,0,0,0⟩]⟩:Mth)).code) b0 rfl (by omega))⟩
theorem oneL_f{w:World}{g:Nat}{S:Nat→Prop}(h:Blks w g (oneL g))(hS:∀b,g≤b→b<g+8→S b):RdF w S (some ⟨g+1+1+1+1,0,none⟩) (some ⟨g+1+1+1+1+1+1,0,none⟩) none oneFn:=by
 obtain⟨b0,b1,b2,b3,b4,b5,b6,b7,-⟩:=h;refine⟨RdL.blk [(none,0),((some ⟨g+1+1+1,0,none⟩),1)] b4 (by rfl) (hS _ (by omega) (by omega)) rfl ⟨RdS.nil _ _ _ _,RdS.blk b3 (hS _ (by omega) (by omega)) rfl,trivial⟩,RdL.blk [⟨(none,0),((some ⟨g+1+1+1+1+1,0,none⟩),2),(none,0),(none,0)⟩] b6 (by rfl) (hS _ (by omega) (by omega)) rfl ⟨⟨RdS.nil _ _ _ _,RdS.blk b5 (hS _ (by omega) (by omega)) rfl,RdS.nil _ _ _ _,RdS.nil _ _ _ _⟩,trivial⟩,RdL.nil _ _ _ _⟩
def swPL(g:Nat):List NB:=[(24,#[.int .i64 1,.int .i64 0,.int .i64 0,.int .i64 1,.int .i64 23,.int .i64 0,.int .i64 0,.int .i64 0,.int .i64 1,.int .i64 0,.int .i64 0,.int .i64 1,.int .i64 33,.int .i64 0,.int .i64 0,.int .i64 0]),(27,#[.string ⟨#[]⟩,.string ⟨#[]⟩,.string ⟨#[73]⟩,.slice (some ⟨g,0,none⟩) 4 4]),(31,#[.slice none 0 0,.slice (some ⟨g+1,0,none⟩) 1 1])]
theorem swPL_p{w:World}{g B:Nat}(h:Blks w g (swPL g))(hB:g+3≤B):RdP w B none (some ⟨g+1,0,none⟩) swP:=by
 obtain⟨b0,b1,b2,-⟩:=h;exact⟨⟨rfl,fun h=>by cases h⟩,RdMs.one (A1:=(some ⟨g,0,none⟩)) (c1:=4) (Blk.rd (xs:=mcell (swM,((some ⟨g,0,none⟩),4))) b1 rfl (by omega)) (Blk.rd (xs:=icells (swM).code) b0 rfl (by omega))⟩
def swL(a b n:Int)(g:Nat):List NB:=[(3,#[.int .i64 0,.int .i64 7]),(3,#[.int .i64 1,.int .i64 6]),(3,#[.int .i64 2,.int .i64 12]),(3,#[.int .i64 8,.int .i64 4]),(3,#[.int .i64 9]),(3,#[.int .i64 8,.int .i64 3]),(3,#[.int .i64 6]),(40,#[.int .i64 1,.int .i64 0,.int .i64 0,.int .i64 (-1),.string ⟨#[73]⟩,.int .i64 a,.slice none 0 0,.int .i64 1,.int .i64 0,.int .i64 0,.int .i64 (-1),.string ⟨#[73]⟩,.int .i64 b,.slice none 0 0,.int .i64 1,.int .i64 0,.int .i64 0,.int .i64 (-1),.string ⟨#[73]⟩,.int .i64 0,.slice none 0 0,.int .i64 1,.int .i64 0,.int .i64 0,.int .i64 (-1),.string ⟨#[73]⟩,.int .i64 1,.slice none 0 0,.int .i64 1,.int .i64 0,.int .i64 0,.int .i64 (-1),.string ⟨#[73]⟩,.int .i64 n,.slice none 0 0,.int .i64 45,.int .i64 0,.int .i64 0,.int .i64 (-1),.string ⟨#[]⟩,.int .i64 0,.slice none 0 0,.int .i64 41,.int .i64 0,.int .i64 0,.int .i64 (-1),.string ⟨#[73]⟩,.int .i64 0,.slice (some ⟨g,0,none⟩) 2 2,.int .i64 41,.int .i64 0,.int .i64 0,.int .i64 (-1),.string ⟨#[73]⟩,.int .i64 0,.slice (some ⟨g+1,0,none⟩) 2 2,.int .i64 41,.int .i64 0,.int .i64 0,.int .i64 (-1),.string ⟨#[73]⟩,.int .i64 0,.slice (some ⟨g+1+1,0,none⟩) 2 2,.int .i64 19,.int .i64 0,.int .i64 0,.int .i64 (-1),.string ⟨#[73]⟩,.int .i64 0,.slice (some ⟨g+1+1+1,0,none⟩) 2 2,.int .i64 46,.int .i64 0,.int .i64 0,.int .i64 (-1),.string ⟨#[]⟩,.int .i64 0,.slice (some ⟨g+1+1+1+1,0,none⟩) 1 1,.int .i64 42,.int .i64 0,.int .i64 0,.int .i64 0,.string ⟨#[]⟩,.int .i64 0,.slice none 0 0,.int .i64 8,.int .i64 0,.int .i64 0,.int .i64 (-1),.string ⟨#[73]⟩,.int .i64 0,.slice (some ⟨g+1+1+1+1+1,0,none⟩) 2 2,.int .i64 45,.int .i64 0,.int .i64 0,.int .i64 (-1),.string ⟨#[]⟩,.int .i64 0,.slice none 0 0,.int .i64 47,.int .i64 0,.int .i64 0,.int .i64 (-1),.string ⟨#[]⟩,.int .i64 0,.slice (some ⟨g+1+1+1+1+1+1,0,none⟩) 1 1]),(3,#[.int .i64 0,.int .i64 1,.int .i64 2,.int .i64 3,.int .i64 4,.int .i64 5]),(3,#[.int .i64 1]),(3,#[.int .i64 6,.int .i64 7,.int .i64 8]),(3,#[.int .i64 9,.int .i64 10]),(3,#[.int .i64 2,.int .i64 3]),(3,#[.int .i64 0,.int .i64 2]),(3,#[.int .i64 11,.int .i64 12,.int .i64 13]),(3,#[.int .i64 1]),(3,#[.int .i64 1]),(3,#[.int .i64 14]),(3,#[.int .i64 1]),(43,#[.slice none 0 0,.slice (some ⟨g+1+1+1+1+1+1+1+1,0,none⟩) 6 6,.slice (some ⟨g+1+1+1+1+1+1+1+1+1,0,none⟩) 1 1,.slice none 0 0,.slice (some ⟨g+1+1+1+1+1+1+1+1+1+1,0,none⟩) 3 3,.slice (some ⟨g+1+1+1+1+1+1+1+1+1+1+1,0,none⟩) 2 2,.slice (some ⟨g+1+1+1+1+1+1+1+1+1+1+1+1,0,none⟩) 2 2,.slice (some ⟨g+1+1+1+1+1+1+1+1+1+1+1+1+1,0,none⟩) 2 2,.slice none 0 0,.slice (some ⟨g+1+1+1+1+1+1+1+1+1+1+1+1+1+1,0,none⟩) 3 3,.slice (some ⟨g+1+1+1+1+1+1+1+1+1+1+1+1+1+1+1,0,none⟩) 1 1,.slice (some ⟨g+1+1+1+1+1+1+1+1+1+1+1+1+1+1+1+1,0,none⟩) 1 1,.slice none 0 0,.slice (some ⟨g+1+1+1+1+1+1+1+1+1+1+1+1+1+1+1+1+1,0,none⟩) 1 1,.slice none 0 0,.slice (some ⟨g+1+1+1+1+1+1+1+1+1+1+1+1+1+1+1+1+1+1,0,none⟩) 1 1]),(3,#[.int .i64 3]),(47,#[.int .i64 0,.int .i64 1,.int .i64 (-1),.slice none 0 0,.slice (some ⟨g+1+1+1+1+1+1+1+1+1+1+1+1+1+1+1+1+1+1+1+1,0,none⟩) 1 1,.slice none 0 0]),(50,#[.int .i64 0,.int .i64 0,.slice (some ⟨g+1+1+1+1+1+1+1,0,none⟩) 15 15,.slice (some ⟨g+1+1+1+1+1+1+1+1+1+1+1+1+1+1+1+1+1+1+1,0,none⟩) 4 4,.slice (some ⟨g+1+1+1+1+1+1+1+1+1+1+1+1+1+1+1+1+1+1+1+1+1,0,none⟩) 1 1])]
theorem swL_f{a b n:Int}{w:World}{g:Nat}{S:Nat→Prop}(h:Blks w g (swL a b n g))(hS:∀b,g≤b→b<g+23→S b):RdF w S (some ⟨g+1+1+1+1+1+1+1,0,none⟩) (some ⟨g+1+1+1+1+1+1+1+1+1+1+1+1+1+1+1+1+1+1+1,0,none⟩) (some ⟨g+1+1+1+1+1+1+1+1+1+1+1+1+1+1+1+1+1+1+1+1+1,0,none⟩) (swF a b n):=by
 obtain⟨b0,b1,b2,b3,b4,b5,b6,b7,b8,b9,b10,b11,b12,b13,b14,b15,b16,b17,b18,b19,b20,b21,b22,-⟩:=h;refine⟨RdL.blk [(none,0),(none,0),(none,0),(none,0),(none,0),(none,0),((some ⟨g,0,none⟩),2),((some ⟨g+1,0,none⟩),2),((some ⟨g+1+1,0,none⟩),2),((some ⟨g+1+1+1,0,none⟩),2),((some ⟨g+1+1+1+1,0,none⟩),1),(none,0),((some ⟨g+1+1+1+1+1,0,none⟩),2),(none,0),((some ⟨g+1+1+1+1+1+1,0,none⟩),1)] b7 (by rfl) (hS _ (by omega) (by omega)) rfl ⟨RdS.nil _ _ _ _,RdS.nil _ _ _ _,RdS.nil _ _ _ _,RdS.nil _ _ _ _,RdS.nil _ _ _ _,RdS.nil _ _ _ _,RdS.blk b0 (hS _ (by omega) (by omega)) rfl,RdS.blk b1 (hS _ (by omega) (by omega)) rfl,RdS.blk b2 (hS _ (by omega) (by omega)) rfl,RdS.blk b3 (hS _ (by omega) (by omega)) rfl,RdS.blk b4 (hS _ (by omega) (by omega)) rfl,RdS.nil _ _ _ _,RdS.blk b5 (hS _ (by omega) (by omega)) rfl,RdS.nil _ _ _ _,RdS.blk b6 (hS _ (by omega) (by omega)) rfl,trivial⟩,RdL.blk [⟨(none,0),((some ⟨g+1+1+1+1+1+1+1+1,0,none⟩),6),((some ⟨g+1+1+1+1+1+1+1+1+1,0,none⟩),1),(none,0)⟩,⟨((some ⟨g+1+1+1+1+1+1+1+1+1+1,0,none⟩),3),((some ⟨g+1+1+1+1+1+1+1+1+1+1+1,0,none⟩),2),((some ⟨g+1+1+1+1+1+1+1+1+1+1+1+1,0,none⟩),2),((some ⟨g+1+1+1+1+1+1+1+1+1+1+1+1+1,0,none⟩),2)⟩,⟨(none,0),((some ⟨g+1+1+1+1+1+1+1+1+1+1+1+1+1+1,0,none⟩),3),((some ⟨g+1+1+1+1+1+1+1+1+1+1+1+1+1+1+1,0,none⟩),1),((some ⟨g+1+1+1+1+1+1+1+1+1+1+1+1+1+1+1+1,0,none⟩),1)⟩,⟨(none,0),((some ⟨g+1+1+1+1+1+1+1+1+1+1+1+1+1+1+1+1+1,0,none⟩),1),(none,0),((some ⟨g+1+1+1+1+1+1+1+1+1+1+1+1+1+1+1+1+1+1,0,none⟩),1)⟩] b19 (by rfl) (hS _ (by omega) (by omega)) rfl ⟨⟨RdS.nil _ _ _ _,RdS.blk b8 (hS _ (by omega) (by omega)) rfl,RdS.blk b9 (hS _ (by omega) (by omega)) rfl,RdS.nil _ _ _ _⟩,⟨RdS.blk b10 (hS _ (by omega) (by omega)) rfl,RdS.blk b11 (hS _ (by omega) (by omega)) rfl,RdS.blk b12 (hS _ (by omega) (by omega)) rfl,RdS.blk b13 (hS _ (by omega) (by omega)) rfl⟩,⟨RdS.nil _ _ _ _,RdS.blk b14 (hS _ (by omega) (by omega)) rfl,RdS.blk b15 (hS _ (by omega) (by omega)) rfl,RdS.blk b16 (hS _ (by omega) (by omega)) rfl⟩,⟨RdS.nil _ _ _ _,RdS.blk b17 (hS _ (by omega) (by omega)) rfl,RdS.nil _ _ _ _,RdS.blk b18 (hS _ (by omega) (by omega)) rfl⟩,trivial⟩,RdL.blk [⟨(none,0),((some ⟨g+1+1+1+1+1+1+1+1+1+1+1+1+1+1+1+1+1+1+1+1,0,none⟩),1),(none,0),(none,0)⟩] b21 (by rfl) (hS _ (by omega) (by omega)) rfl ⟨⟨RdS.nil _ _ _ _,RdS.blk b20 (hS _ (by omega) (by omega)) rfl,RdL.nil _ _ _ _⟩,trivial⟩⟩
end Go.Proofs.YtgbgbmdiomhfiaaGreatDoor