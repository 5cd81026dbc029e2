/-
 Dom1, Dom2, Dom3, DomOf0, Kx.
-/
import Derived.Test.YtgbgbmdiomhfiaaGreatDoorJFlow3
import Derived.Test.YtgbgbmdiomhfiaaGreatDoorJSettlePure
set_option linter.unusedSimpArgs false
set_option linter.unusedVariables false
set_option maxHeartbeats 8000000
set_option maxRecDepth 100000
namespace Go.Proofs.YtgbgbmdiomhfiaaGreatDoor
open Go.RowKit Go.Maps
structure AtL(order:List Nat)(pos:Nat→Nat)(n:Nat)(atl:List Int):Prop where
 len:atl.length=n
 yes:∀k,k∈order→k<n∧atl.getD k 0=pos k
 no:∀k,k<n→k∉order→atl.getD k 0= -1
def MeetPost(w:World)(idl:List Int)(a b:Nat)(e:Ending)(w':World):Prop:=
 ∃v q,e=.returned (.int .i64 ((v:Nat):Int))∧(idOf idl v).isSome=true∧(∀x,Ch (idOf idl) x v↔Ch (idOf idl) x a∧Ch (idOf idl) x b)∧w'=w.drewN q
theorem meet_any{E:Nat→Nat→Prop}{order:List Nat}{pos tp:Nat→Nat}{n:Nat}{idl atl:List Int}{r:Nat→Nat}(O:Ordd E order pos tp)(I:Inv E order pos tp (idOf idl) r)(hp0:pos 0=0)(hA:AtL order pos n atl)(hn:n≤100000)(hl:idl.length=n)
 (w:World)(gt gi ga ba bt:Nat)(t1 t2:TypeId)(hb1:Blk w bt t1 #[.pointer (some ⟨gt,0,none⟩)])(hb2:Blk w ba t2 #[.slice (some ⟨ga,0,none⟩) n n])
 (ht:w.cell? ⟨gt,1,none⟩=some (.slice (some ⟨gi,0,none⟩) n n))(hi:Blk w gi 3 ⟨ints idl⟩)(ha:Blk w ga 3 ⟨ints atl⟩)(a b:Nat)(hsa:(idOf idl a).isSome=true)(hsb:(idOf idl b).isSome=true):
 Calls Tryz.prog 116 #[.int .i64 a,.int .i64 b,.pointer (some ⟨ba,0,none⟩),.pointer (some ⟨bt,0,none⟩)] w (MeetPost w idl a b):=by
 have hPP:∀v q,(idOf idl v).isSome=true→(∀x,Ch (idOf idl) x v↔Ch (idOf idl) x a∧Ch (idOf idl) x b)→MeetPost w idl a b (.returned (.int .i64 ((v:Nat):Int))) (w.drewN q):=fun v q h1 h2=>⟨v,q,rfl,h1,h2,rfl⟩
 have HP:=eh hPP;clear hPP;generalize MeetPost w idl a b=Post at*;have Hsa:=eh hsa;have Hsb:=eh hsb;have Hl:=eh hl;have HO:=eh (show pos 0=0∧Ordd E order pos tp∧Inv E order pos tp (idOf idl) r∧AtL order pos n atl from⟨hp0,O,I,hA⟩);have Hw:=eh (show Blk w bt t1 #[.pointer (some ⟨gt,0,none⟩)]∧Blk w ba t2 #[.slice (some ⟨ga,0,none⟩) n n]∧w.cell? ⟨gt,1,none⟩=some (.slice (some ⟨gi,0,none⟩) n n)∧Blk w gi 3 ⟨ints idl⟩∧Blk w ga 3 ⟨ints atl⟩from⟨hb1,hb2,ht,hi,ha⟩);clear hsa hsb hl hp0 O I hA hb1 hb2 ht hi ha;go_enter Tryz.func116,Tryz.ntmps116;go_wp2;go_loopg [0,1] (pos a+pos b+1) (fun k av bv wr=>∃a' b' q:Nat,av=.int .i64 (a':Int)∧bv=.int .i64 (b':Int)∧Hid ((idOf idl a').isSome=true)∧Hid ((idOf idl b').isSome=true)∧Hid (∀x,(Ch (idOf idl) x a'∧Ch (idOf idl) x b')↔(Ch (idOf idl) x a∧Ch (idOf idl) x b))∧pos a'+pos b'<k∧wr=w.drewN q)
 case atStart=>exact⟨a,b,0,rfl,rfl,Hsa,Hsb,eh (fun x=>Iff.rfl),Nat.lt_succ_self _,rfl⟩
 case round=>
  obtain⟨a',b',q,rfl,rfl,sa,sb,HC,hlt,rfl⟩:=hrel
  by_cases hab:a'=b'
  ·subst hab;have hC:=eh (fun x=>(⟨fun h=>(HC.out x).1 ⟨h,h⟩,fun h=>((HC.out x).2 h).1⟩:Ch (idOf idl) x a'↔Ch (idOf idl) x a∧Ch (idOf idl) x b));go_wp2;exact HP.out a' q sa.out hC.out
  ·obtain⟨hp0,O,I,hA⟩:=HO.out;obtain⟨c1,c2,c3,c4,c5⟩:=Hw.out;have hao:=I.mem O sa.out;have hbo:=I.mem O sb.out;have g1:((a':Int) != (b':Int))=true:=by
    have :(a':Int)≠b':=by omega
    simpa using this
   have g2:(a' != b')=true:=by simpa using hab
   obtain⟨ha1,ha2⟩:=hA.yes a' hao;obtain⟨hb1,hb2⟩:=hA.yes b' hbo;have y1:=uH c5 (show a'<atl.length by rw[hA.len];exact ha1);have y2:=uH c5 (show b'<atl.length by rw[hA.len];exact hb1);rw[ha2]at y1;rw[hb2]at y2;have z1:=c1.at0;have z2:=c2.at0;have hne:pos a'≠pos b':=fun e=>hab (O.inj _ _ hao hbo e)
   have k1:(0:Int)≤a':=by omega
   have k2:(a':Int)<n:=by omega
   have k3:(0:Int)≤b':=by omega
   have k4:(b':Int)<n:=by omega
   have l1:=c1.lt;have l2:=c2.lt
   by_cases hgt:pos b'<pos a'
   ·have g3:decide ((pos b':Int)<(pos a':Int))=true:=by simpa using hgt
    have g4:decide (pos b'<pos a')=true:=by simpa using hgt
    have ha0:a'≠0:=fun e=>by subst e;omega
    obtain⟨u,hu⟩:=Option.isSome_iff_exists.1 sa.out;have hup:=I.up a' u hu ha0;have hpu:=I.lt O hu ha0;have y3:=uH c4 (show a'<idl.length by rw[Hl.out];exact ha1);rw[←getD_neg (by rw[Hl.out];exact ha1),idOf_some hu]at y3;have HC':=eh (fun x=>(meet_step I O sa.out sb.out hgt hu x).symm.trans (HC.out x));have su:=eh hup.2.2;clear hu hup hab ha0 O I hA hao hbo ha2 hb2 hgt c1 c2 c4 c5 sa HC;go_wp2;go_quiet (fail);rename Nat=>q2
    go_wp2;go_roundg (pos u+pos b'+1)
    case measure=>omega
    case rel=>exact⟨u,b',_,rfl,rfl,su,sb,HC',Nat.lt_succ_self _,by first|rfl|exact World.drewN_drewN _ _ _⟩
   ·have g3:decide ((pos b':Int)<(pos a':Int))=false:=by simpa using hgt
    have g4:decide (pos b'<pos a')=false:=by simpa using hgt
    have hb0:b'≠0:=fun e=>by subst e;omega
    obtain⟨u,hu⟩:=Option.isSome_iff_exists.1 sb.out;have hup:=I.up b' u hu hb0;have hpu:=I.lt O hu hb0;have y3:=uH c4 (show b'<idl.length by rw[Hl.out];exact hb1);rw[←getD_neg (by rw[Hl.out];exact hb1),idOf_some hu]at y3;have hlt':pos a'<pos b':=by omega
    have HC':=eh (fun x=>(and_comm.trans ((meet_step I O sb.out sa.out hlt' hu x).symm.trans and_comm)).trans (HC.out x));have su:=eh hup.2.2;clear hu hup hab hb0 O I hA hao hbo ha2 hb2 hgt hlt' c1 c2 c4 c5 sb HC;go_wp2;go_quiet (fail);rename Nat=>q2
    go_wp2;go_roundg (pos a'+pos u+1)
    case measure=>omega
    case rel=>exact⟨a',u,_,rfl,rfl,sa,su,HC',Nat.lt_succ_self _,by first|rfl|exact World.drewN_drewN _ _ _⟩
theorem kept_of_grown{w w':World}{g:Nat}(h:w.grownBy w' (some g)):Kept (fun b=>b<w.heap.size∧b≠g) w w':=fun p hp=>World.cell?_of_block (h.block p.block hp.1 (fun e=>hp.2 (Option.some.inj e)))
theorem grownN{a w:World}{row:Option Nat}(h:a.grownBy w row)(n:Nat):a.grownBy (w.drewN n) row:=⟨h.os,h.tape,h.output,h.size,h.block⟩
theorem gt_lt{w:World}{g o:Nat}{v:Value}(h:w.cell? ⟨g,o,none⟩=some v):g<w.heap.size:=World.block_lt_of_cell? w ⟨g,o,none⟩ h
def HeadR(E:Nat→Nat→Prop)(order:List Nat)(pos tp:Nat→Nat)(n:Nat)(idl:List Int)(ch:Bool)(k:Nat):Prop:=
 (ch=true→∃r R,SetR E order pos tp n idl r R 1 false∧R≤order.length+1∧order.length+2-R≤k)∧(ch=false→∃r R,SetR E order pos tp n idl r R order.length false)
structure DoneL(E:Nat→Nat→Prop)(order:List Nat)(pos:Nat→Nat)(n:Nat)(idl:List Int):Prop where
 len:idl.length=n
 root:idl.getD 0 0= -1
 up:∀k,k∈order→k≠0→∃u:Nat,idl.getD k 0=u∧u∈order∧pos u<pos k∧∀x,x≠k→(Dm E x k↔Dm E x u)
 out:∀k,k<n→k∉order→idl.getD k 0= -1
def SettlePost(w:World)(E:Nat→Nat→Prop)(order:List Nat)(pos:Nat→Nat)(n gi:Nat)(e:Ending)(w':World):Prop:=
 ∃idl,e=.returned (.tuple #[])∧Blk w' gi 3 ⟨ints idl⟩∧DoneL E order pos n idl∧w.grownBy w' (some gi)
theorem done_of{E:Nat→Nat→Prop}{order:List Nat}{pos tp:Nat→Nat}{n:Nat}{idl:List Int}{r:Nat→Nat}{R:Nat}(S:SetR E order pos tp n idl r R order.length false)(O:Ordd E order pos tp)(hpos:∀j,j∈order→pos j<order.length)(hlt:∀j,j∈order→j<n)(hn:0<n):
 DoneL E order pos n (idl.set 0 (-1)):=by
 have hg:∀k,k≠0→k<n→(idl.set 0 (-1)).getD k 0=idl.getD k (-1):=fun k hk hkn=>by
  have hk':¬0=k:=fun e=>hk e.symm
  have hkl:k<idl.length:=by rw[S.len];exact hkn
  rw[getD_neg hkl];simp[hk']
 refine⟨by simp[S.len],by simp[show 0<idl.length by rw[S.len];exact hn],fun k hk hk0=>?_,fun k hk hko=>?_⟩
 ·obtain⟨u,h1,h2⟩:=S.fin O hpos hk hk0;exact⟨u,by rw[hg k hk0 (hlt k hk)];exact h1,h2⟩
 ·have hk0:k≠0:=fun e=>hko (by subst e;exact(O.mem 0).2 .zero)
  rw[hg k hk0 hk];exact S.out O hko
theorem settle_any{E:Nat→Nat→Prop}{order:List Nat}{pos tp:Nat→Nat}{n:Nat}{atl:List Int}{pl:List (List Nat)}(O:Ordd E order pos tp)(hp0:pos 0=0)(hpos:∀m k,order[m]? =some k→pos k=m)(hA:AtL order pos n atl)(hn0:0<n)(hn:n≤100000)(hon:order.length≤n)
 (hpl:pl.length=n)(hP:∀k,k<n→∀p,p∈pl.getD k []↔p<n∧E p k)(hPl:∀k,(pl.getD k []).length≤100000)
 (w:World)(gt gi ga gp go co:Nat)(hgi:gi<w.heap.size)(hne1:gt≠gi)(hne2:ga≠gi)(ht0:w.cell? ⟨gt,0,none⟩=some (.slice (some ⟨gp,0,none⟩) n n))(ht1:w.cell? ⟨gt,1,none⟩=some (.slice (some ⟨gi,0,none⟩) n n))
 (hi:Blk w gi 3 ⟨ints (List.replicate n (-1))⟩)(ha:Blk w ga 3 ⟨ints atl⟩)(hpr:RdL rowShape w (fun b=>b<w.heap.size∧b≠gi) (some ⟨gp,0,none⟩) (pl.map nats))(hor:RdS w (fun b=>b<w.heap.size∧b≠gi) 1 (some ⟨go,0,none⟩) order.length (ints (nats order)))(hco:order.length≤co):
 Calls Tryz.prog 81 #[.pointer (some ⟨gt,0,none⟩),.slice (some ⟨go,0,none⟩) order.length co,.slice (some ⟨ga,0,none⟩) n n] w (SettlePost w E order pos n gi):=by
 have hord0:0∈order:=(O.mem 0).2 .zero;have hol:0<order.length:=List.length_pos_of_mem hord0;have holn:∀j,j∈order→j<n:=fun j hj=>(hA.yes j hj).1
 have hposl:∀j,j∈order→pos j<order.length:=fun j hj=>by
  obtain⟨m,hm,he⟩:=List.mem_iff_getElem.1 hj;rw[hpos m j (by rw[List.getElem?_eq_getElem hm,he])];exact hm
 have hPP:∀idl w',HeadR E order pos tp n idl false 0→Blk w' gi 3 ⟨ints (idl.set 0 (-1))⟩→w.grownBy w' (some gi)→SettlePost w E order pos n gi (.returned (.tuple #[])) w':=fun idl w' h1 h2 h3=>by
  obtain⟨r,R,S⟩:=h1.2 rfl;exact⟨_,rfl,h2,done_of S O hposl holn hn0,h3⟩
 have HP:=eh hPP;clear hPP;generalize SettlePost w E order pos n gi=Post at*;have H0:=eh (SetR.begin0 hn0 hp0 O);have c0:=uH hi (k:=0) (by simpa using hn0);have f0:=hi.frozen 0;have n0:(0:Int)<n:=by omega
 have Hgt:=gt_lt ht0;have hga:=ha.lt;go_enter Tryz.func81,Tryz.ntmps81;go_wp2;have hgw0:=uA w ⟨gi,0,none⟩ (.int .i64 0);have hgw:=(hgw0.trans (World.grownBy_alloc (w.setCell ⟨gi,0,none⟩ (.int .i64 0)) (.cells #[.pointer (some ⟨gt,0,none⟩)] 116) (some gi))).trans (World.grownBy_alloc _ (.cells #[.slice (some ⟨ga,0,none⟩) n n] 38) (some gi));have bi:=((uL hi 0 0).alloc (.cells #[.pointer (some ⟨gt,0,none⟩)] 116)).alloc (.cells #[.slice (some ⟨ga,0,none⟩) n n] 38);have bb1:=(Blk.newAt (w:=w.setCell ⟨gi,0,none⟩ (.int .i64 0)) (g:=w.heap.size) (by simp) 116 #[.pointer (some ⟨gt,0,none⟩)]).alloc (.cells #[.slice (some ⟨ga,0,none⟩) n n] 38);have bb2:=Blk.newAt (w:=(w.setCell ⟨gi,0,none⟩ (.int .i64 0)).alloc (.cells #[.pointer (some ⟨gt,0,none⟩)] 116)) (g:=w.heap.size+1) (by simp) 38 #[.slice (some ⟨ga,0,none⟩) n n];generalize((w.setCell ⟨gi,0,none⟩ (.int .i64 0)).alloc (.cells #[.pointer (some ⟨gt,0,none⟩)] 116)).alloc (.cells #[.slice (some ⟨ga,0,none⟩) n n] 38)=w2 at*;clear hgw0 hi c0 f0;generalize(List.replicate n (-1:Int)).set 0 0=idl0 at*;have Hi1:Hid (HeadR E order pos tp n idl0 true (order.length+2)):=eh ⟨fun _=>⟨_,0,H0.out,by omega,by omega⟩,fun h=>by cases h⟩;have HH:=eh (show Ordd E order pos tp∧pos 0=0∧(∀m k,order[m]? =some k→pos k=m)∧AtL order pos n atl∧(∀k,k<n→∀p,p∈pl.getD k []↔p<n∧E p k)∧(∀j,j∈order→pos j<order.length)from⟨O,hp0,hpos,hA,hP,hposl⟩);clear H0 O hp0 hpos hA hP hposl hord0;have Hal:=eh holn;have Hpll:=eh hPl;clear holn hPl;go_loopg [7] (order.length+2) (fun k cv wr=>∃(ch:Bool) (idl:List Int),cv=.bool ch∧Hid (HeadR E order pos tp n idl ch k)∧Blk wr gi 3 ⟨ints idl⟩∧Blk wr w.heap.size 116 #[.pointer (some ⟨gt,0,none⟩)]∧Blk wr (w.heap.size+1) 38 #[.slice (some ⟨ga,0,none⟩) n n]∧w.grownBy wr (some gi))
 case atStart=>exact⟨true,idl0,rfl,Hi1,bi,bb1,bb2,hgw⟩
 case round=>
  clear Hi1 bi bb1 bb2 hgw;obtain⟨ch,idl,rfl,HR,bi,bb1,bb2,hg⟩:=hrel;have z1:=bb1.at0;have t1:=World.grownBy.cell hg ht1 (fun e=>hne1 (Option.some.inj e));have hl1:=bb1.lt;cases ch with
  |false=>
   have hlen:idl.length=n:=by
    obtain⟨r,R,S⟩:=HR.out.2 rfl;exact S.len
   have y0:=uH bi (k:=0) (by omega);have fr:=bi.frozen 0;have li:=bi.lt;clear hlen;have HR0:Hid (HeadR E order pos tp n idl false 0):=eh ⟨fun h=>(by cases h),HR.out.2⟩;go_wp2;go_end0;exact HP.out idl _ HR0.out (uL bi 0 (-1)) (hg.trans (uA _ ⟨gi,0,none⟩ _))
  |true=>
   obtain⟨r0,R,S0,hR1,hR2⟩:=HR.out.1 rfl;have S0':=eh S0;clear HR S0 z1 t1 hl1
   by_cases hc1:co=1
   ·have ho1:order.length=1:=by omega
    have HE:Hid (HeadR E order pos tp n idl false 0):=eh ⟨fun h=>(by cases h),fun _=>⟨r0,R,by rw[ho1];exact S0'.out⟩⟩;have hgk:0<gk:=by omega
    clear HH S0' hR1 hR2;go_wp2;go_loopw [7,23] (fun cv jv wq=>cv=.bool false∧jv=.int .i64 0∧wq=wr) (fun _ _ _=>0)
    case atStart=>exact⟨rfl,rfl,rfl⟩
    case round=>
     obtain⟨rfl,rfl,rfl⟩:=hrel;go_wp2;go_roundg 0
     case measure=>exact hgk
     case rel=>exact⟨false,idl,rfl,HE,bi,bb1,bb2,hg⟩
   ·have hc2:1<co:=by omega
    have hc3:¬co≤1:=by omega
    go_wp2;go_loopw [7,23] (fun cv jv wq=>∃(ch:Bool) (j:Nat) (idl:List Int) (r:Nat→Nat),cv=.bool ch∧jv=.int .i64 j∧j+1≤order.length∧Hid (SetR E order pos tp n idl r R (j+1) ch)∧Blk wq gi 3 ⟨ints idl⟩∧Blk wq w.heap.size 116 #[.pointer (some ⟨gt,0,none⟩)]∧Blk wq (w.heap.size+1) 38 #[.slice (some ⟨ga,0,none⟩) n n]∧w.grownBy wq (some gi)) (fun _ jv _=>order.length-(intOf jv).toNat)
    case atStart=>exact⟨false,0,idl,r0,rfl,rfl,by omega,S0',bi,bb1,bb2,hg⟩
    case round=>
     clear S0' bi bb1 bb2 hg;obtain⟨ch,j,idl,r,rfl,rfl,hj,S,bi,bb1,bb2,hg⟩:=hrel
     by_cases hjl:j+1<order.length
     ·obtain⟨k,hk⟩:∃k,order[j+1]? =some k:=⟨_,List.getElem?_eq_getElem hjl⟩;obtain⟨O,hp0,hpos,hA,hP,hposl⟩:=HH.out;have hko:k∈order:=List.mem_of_getElem? hk;have hkn:=Hal.out k hko;have hkp:=hpos _ _ hk;have hk0:k≠0:=fun e=>by subst e;omega
      have K:=kept_of_grown hg;obtain⟨bo,oo,eo,hbo,yo⟩:=(hor.keep K).2 (by omega);injection eo with eo
      injection eo with eo eo2
      subst eo eo2;have yo1:=yo (j+1) (.int .i64 (k:Int)) (by simp[ints,nats,hk]);rw[show 0+(j+1)=1+j by omega]at yo1;obtain⟨bp,op,A1,c1,ep,hbp,yp,hrow⟩:=rd_row (hpr.keep K) (k:=k) (by simpa[hpl]using hkn);injection ep with ep
      injection ep with ep ep2
      subst ep ep2;have hlrow:(pl.map nats).getD k []=nats (pl.getD k []):=by rw[List.getD_eq_getElem?_getD,map_nats_get pl (by omega)];rfl
      rw[hlrow]at yp hrow;rw[Nat.zero_add]at yp;have hnl:(nats (pl.getD k [])).length=(pl.getD k []).length:=nats_len _;rw[hnl]at yp;have hPk:=eh (hP k hkn);have hPlen:=Hpll.out k;have z1:=bb1.at0;have z2:=bb2.at0;have t0:=World.grownBy.cell hg ht0 (fun e=>hne1 (Option.some.inj e));have t1:=World.grownBy.cell hg ht1 (fun e=>hne1 (Option.some.inj e));have hga2:=ha.grown hg (fun e=>hne2 (Option.some.inj e));have hl1:=bb1.lt;have hl2:=bb2.lt;have hli:=bi.lt;have k0:(0:Int)≤k:=by omega
      have k1:(k:Int)<n:=by omega
      have j0:(0:Int)≤j:=by omega
      have j1:(j:Int)<((order.length-1:Nat):Int):=by omega
      have j2:(j:Int)<(order.length:Int)-1:=by omega
      have j3:j<order.length-1:=by omega
      have hidl:idl.length=n:=S.out.len;have Hidl:=eh hidl;have yv:=uH bi (show k<idl.length by omega);have fv:=bi.frozen k;have HA:=eh hA;have HPk2:=eh (show∀p,E p k→(idOf idl p).isSome=true→p∈pl.getD k []from fun p e hs=>(hPk.out p).2 ⟨Hal.out p (S.out.inv.mem O hs),e⟩);have HPk3:=eh (show∀p,p∈pl.getD k []→E p k from fun p hp=>((hPk.out p).1 hp).2);have HPk4:=eh (show∀p,p∈pl.getD k []→p<n from fun p hp=>((hPk.out p).1 hp).1);have Htp:=eh (show E (tp k) k∧(idOf idl (tp k)).isSome=true from⟨(O.tp k hko hk0).1,(S.out.bef _ (O.tp k hko hk0).2.1 (by have:=(O.tp k hko hk0).2.2;omega)).1⟩);have Hkk:=eh (show k∈order∧k≠0∧pos k=j+1 from⟨hko,hk0,hkp⟩);clear hk O hp0 hpos hA hP hposl hko hkp hk0 K yo hlrow hPk hidl;generalize pl.getD k []=P at*;obtain⟨wo,rfl⟩:∃wo:World,wo=wr:=⟨_,rfl⟩;go_wp2;go_loopw [10,35] (fun uv qv w3=>∃(q d:Nat) (up:Int),uv=.int .i64 up∧qv=.int .i64 q∧q≤P.length∧Hid (MeetTo idl (P.take q) up)∧w3=wo.drewN d) (fun _ qv _=>P.length-(intOf qv).toNat)
      case atStart=>exact⟨0,0,-1,rfl,rfl,Nat.zero_le _,eh (by simpa using MeetTo.start idl),rfl⟩
      case round=>
       obtain⟨q,d,up,rfl,rfl,hq,T,rfl⟩:=hrel
       by_cases hql:q<P.length
       ·obtain⟨p,hp⟩:∃p,P[q]? =some p:=⟨_,List.getElem?_eq_getElem hql⟩;have hpm:p∈P:=List.mem_of_getElem? hp;have hpn:=HPk4.out p hpm;obtain⟨br,orr,rfl,hbr,yq⟩:=uX (hrow.rd (B:=w.heap.size) (fun b h=>h.1)) (k:=q) (by rw[hnl];exact hql);have hpv:(nats P)[q]?.getD 0=(p:Int):=by simp[nats,hp]
        rw[hpv]at yq;have Htake:=eh (show P.take (q+1)=P.take q++[p] by rw[List.take_succ_eq_append_getElem hql];rw[List.getElem?_eq_getElem hql]at hp;cases hp;rfl);have q0:(0:Int)≤q:=by omega
        have q1:(q:Int)<P.length:=by omega
        have p0:(0:Int)≤p:=by omega
        have p1:(p:Int)<n:=by omega
        have hal:=HA.out.len;have ya:=uH hga2 (show p<atl.length by omega);have yi:=uH bi (show p<idl.length by rw[Hidl.out];exact hpn)
        by_cases hpo:p∈order
        ·have hap:=(HA.out.yes p hpo).2;rw[hap]at ya;have g1:(((pos p:Nat):Int)== -1)=false:=by
          have :((pos p:Nat):Int)≠-1:=by omega
          simp
         cases hsp:idOf idl p with
         |none=>
          have hv:=idOf_none (S.out.neg p) hsp;rw[getD_neg (by rw[Hidl.out];exact hpn)]at hv;rw[hv]at yi;have T':=eh (T.out.skip hsp);rw[←Htake.out]at T';clear hsp hv hap hp hpm hpv T hpo hal;go_wp2;go_roundw
          case rel=>exact⟨q+1,d,up,rfl,by go_num,by omega,T',rfl⟩
          case measure=>simp[intOf];omega
         |some v=>
          have hv:=idOf_some hsp;rw[getD_neg (by rw[Hidl.out];exact hpn)]at hv;rw[hv]at yi;have g2:((v:Int)== -1)=false:=by
           have :(v:Int)≠-1:=by omega
           simp
          have Hs:=eh (show(idOf idl p).isSome=true by rw[hsp];rfl);clear hsp hv hap hp hpm hpv hpo hal
          by_cases hup:up= -1
          ·subst hup;have T':=eh (T.out.first Hs.out);rw[←Htake.out]at T';clear T;go_wp2;go_roundw
           case rel=>exact⟨q+1,d,p,rfl,by go_num,by omega,T',rfl⟩
           case measure=>simp[intOf];omega
          ·obtain⟨a,ha1,ha2,ha3⟩:=T.out.yes hup;subst ha1;have g3:((a:Int)== -1)=false:=by simp
           have Hs2:=eh ha2;clear hup ha2 ha3;go_wp2_with fail;refine(meet_any HH.out.1 S.out.inv HH.out.2.1 HA.out hn Hidl.out (wo.drewN d) gt gi ga (w.heap.size+1) w.heap.size _ _ bb1 bb2 t1 bi hga2 a p Hs2.out Hs.out).mono ?_;rintro e w4 ⟨v2,q2,rfl,hv2,hm2,rfl⟩;have T':=eh (T.out.meet Hs.out hv2 hm2);rw[←Htake.out]at T';clear T hv2 hm2;go_wp2;go_roundw
           case rel=>exact⟨q+1,_,v2,rfl,by go_num,by omega,T',by first|rfl|exact World.drewN_drewN _ _ _⟩
           case measure=>simp[intOf];omega
        ·have hap:=HA.out.no p hpn hpo;rw[hap]at ya;have hsp:idOf idl p=none:=by
          cases h:idOf idl p with
          |none=>rfl
          |some v=>exact absurd (S.out.inv.mem HH.out.1 (by rw[h];rfl)) hpo
         have T':=eh (T.out.skip hsp);rw[←Htake.out]at T';clear hsp hap hp hpm hpv T hpo hal;go_wp2;go_roundw
         case rel=>exact⟨q+1,d,up,rfl,by go_num,by omega,T',rfl⟩
         case measure=>simp[intOf];omega
       ·have hqe:q=P.length:=by omega
        have hge:¬(q:Int)<P.length:=by omega
        have T2:=T.out;rw[hqe,List.take_length]at T2;obtain⟨u,hu,M⟩:=T2.all HPk2.out HPk3.out Htp.out.1 Htp.out.2;subst hu;have HM:=eh M;clear hqe hql T T2 M
        by_cases hsame:idOf idl k=some u
        ·have hv:=idOf_some hsame;rw[getD_neg (by rw[Hidl.out];exact hkn)]at hv;rw[hv]at yv;have S':=eh (S.out.same HH.out.1 Hkk.out.1 Hkk.out.2.1 Hkk.out.2.2 hsame HM.out);clear hsame hv S;go_wp2;go_roundw
         case rel=>exact⟨ch,j+1,idl,_,rfl,by go_num,by omega,S',bi,bb1,bb2,grownN hg d⟩
         case measure=>simp[intOf];omega
        ·have hv:idl.getD k 0≠(u:Int):=fun e=>hsame (by
          unfold idOf;rw[getD_neg (by rw[Hidl.out];exact hkn),e];rw[if_neg (by omega)];simp)
         have S':=eh (S.out.turn HH.out.1 Hkk.out.1 hkn Hkk.out.2.1 Hkk.out.2.2 HM.out hsame);have bi':=eh (uL (w:=wo.drewN d) bi k (u:Int));generalize idl.getD k 0=vv at*;have g1:((u:Int) != vv)=true:=by
          have :(u:Int)≠vv:=fun e=>hv e.symm
          simpa using this
         have g2:((u:Int)==vv)=false:=by
          have :(u:Int)≠vv:=fun e=>hv e.symm
          simpa using this
         clear hsame hv S;go_wp2;go_roundw
         case rel=>exact⟨true,j+1,_,_,rfl,by go_num,by omega,S',bi'.out,Blk.far (w:=wo.drewN d) bb1 (by show w.heap.size≠gi;omega) _,Blk.far (w:=wo.drewN d) bb2 (by show w.heap.size+1≠gi;omega) _,(grownN hg d).trans (uA (wo.drewN d) ⟨gi,k,none⟩ _)⟩
         case measure=>simp[intOf];omega
     ·have hje:j+1=order.length:=by omega
      have S':Hid (SetR E order pos tp n idl r R order.length ch):=eh (by rw[←hje];exact S.out);have hge:¬(j:Int)<((order.length-1:Nat):Int):=by omega
      have hge2:¬j<order.length-1:=by omega
      have hge3:¬(j:Int)<(order.length:Int)-1:=by omega
      clear hje hjl S;go_wp2;cases ch with
      |false=>
       go_roundg 0
       case measure=>omega
       case rel=>exact⟨false,idl,rfl,eh ⟨fun h=>(by cases h),fun _=>⟨r,R,S'.out⟩⟩,bi,bb1,bb2,hg⟩
      |true=>
       have hRl:R≤order.length:=by
        by_cases h:order.length+1≤R
        ·have:=S'.out.few h;cases this
        ·omega
       go_roundg (order.length+2-(R+1))
       case measure=>omega
       case rel=>
        obtain⟨O,hp0,_,_,_,hposl⟩:=HH.out;exact⟨true,idl,rfl,eh ⟨fun _=>⟨_,R+1,S'.out.again O hp0 hposl,by omega,Nat.le_refl _⟩,fun h=>(by cases h)⟩,bi,bb1,bb2,hg⟩
structure TreeAt(w:World)(gt gi gd:Nat)(n:Nat)(idm dep:List Int):Prop where
 t1:w.cell? ⟨gt,1,none⟩=some (.slice (some ⟨gi,0,none⟩) n n)
 t2:w.cell? ⟨gt,2,none⟩=some (.slice (some ⟨gd,0,none⟩) n n)
 bi:Blk w gi 3 ⟨ints idm⟩
 bd:Blk w gd 3 ⟨ints dep⟩
def domTP(E:Nat→Nat→Prop)(n:Nat)(a:Int):Prop:=0≤a∧a<n∧Reach E a.toNat
open Classical in
noncomputable def dec(p:Prop):Bool:=decide p
open Classical in
theorem dec_t{p:Prop}(h:p):dec p=true:=by unfold dec;exact decide_eq_true h
open Classical in
theorem dec_f{p:Prop}(h:¬p):dec p=false:=by unfold dec;exact decide_eq_false h
open Classical in
theorem dec_p{p:Prop}(h:dec p=true):p:=by unfold dec at h;exact of_decide_eq_true h
open Classical in
theorem dec_n{p:Prop}(h:dec p=false):¬p:=by unfold dec at h;exact of_decide_eq_false h
noncomputable def domTB(E:Nat→Nat→Prop)(n:Nat)(a:Int):Bool:=dec (domTP E n a)
theorem domThere_any{E:Nat→Nat→Prop}{n:Nat}{idm dep:List Int}(T:TreeOk E n idm dep){w:World}{gt gi gd:Nat}(H:TreeAt w gt gi gd n idm dep)(i:Int):
 Calls Tryz.prog 83 #[.pointer (some ⟨gt,0,none⟩),.int .i64 i] w fun e w'=>e=.returned (.bool (domTB E n i))∧w=w':=by
 obtain⟨t1,t2,bi,bd⟩:=H;have li:=T.li
 by_cases h0:i=0
 ·subst h0
  by_cases hn:0<n
  ·have hB:domTB E n 0=true:=dec_t ⟨by omega,by omega,.zero⟩;have HB:=eh hB;have n0:(0:Int)<n:=by omega
   clear hB;go_enter Tryz.func83,Tryz.ntmps83;go_wp2;go_ret;exact⟨uV (by rw[HB.out]),rfl⟩
  ·have hB:domTB E n 0=false:=dec_f fun h=>by have:=h.2.1;omega
   have HB:=eh hB;have n0:¬(0:Int)<n:=by omega
   clear hB;go_enter Tryz.func83,Tryz.ntmps83;go_wp2;go_ret;exact⟨uV (by rw[HB.out]),rfl⟩
 ·have e0:(i==0)=false:=by simpa using h0
  by_cases hp:0<i
  ·have p1:decide (0<i)=true:=by simpa using hp
   by_cases hl:i<n
   ·obtain⟨k,rfl⟩:∃k:Nat,i=k:=⟨i.toNat,by omega⟩;have y:=uH bi (show k<idm.length by omega);have hth:=T.there (k:=k) (by omega) (by omega);generalize idm.getD k 0=v at*;have k0:(0:Int)≤k:=by omega
    by_cases hv:v= -1
    ·have hB:domTB E n k=false:=dec_f fun h=>by have:=hth.2 (by simpa using h.2.2);exact this hv
     have HB:=eh hB;subst hv;clear hB hth h0;go_enter Tryz.func83,Tryz.ntmps83;go_wp2;go_ret;exact⟨uV (by rw[HB.out]),rfl⟩
    ·have hB:domTB E n k=true:=dec_t ⟨by omega,by omega,by simpa using hth.1 hv⟩;have HB:=eh hB;have v1:(v != -1)=true:=by simpa using hv
     clear hB hth h0 hv;go_enter Tryz.func83,Tryz.ntmps83;go_wp2;go_ret;exact⟨uV (by rw[HB.out]),rfl⟩
   ·have hB:domTB E n i=false:=dec_f fun h=>by have:=h.2.1;omega
    have HB:=eh hB;have l1:decide (i<n)=false:=by simpa using hl
    clear hB hl;go_enter Tryz.func83,Tryz.ntmps83;go_wp2;go_ret;exact⟨uV (by rw[HB.out]),rfl⟩
  ·have hB:domTB E n i=false:=dec_f fun h=>by have:=h.1;omega
   have HB:=eh hB;have p1:decide (0<i)=false:=by simpa using hp
   clear hB hp;go_enter Tryz.func83,Tryz.ntmps83;go_wp2;go_ret;exact⟨uV (by rw[HB.out]),rfl⟩
def aboveP(E:Nat→Nat→Prop)(n:Nat)(a b:Int):Prop:=domTP E n a∧domTP E n b∧Dm E a.toNat b.toNat
noncomputable def aboveB(E:Nat→Nat→Prop)(n:Nat)(a b:Int):Bool:=dec (aboveP E n a b)
def AboveP(w:World)(r:Bool)(e:Ending)(w':World):Prop:=∃q,e=.returned (.bool r)∧w'=w.drewN q
theorem above_any{E:Nat→Nat→Prop}{n:Nat}{idm dep:List Int}(T:TreeOk E n idm dep)(hn:n≤100000){w:World}{gt gi gd:Nat}(H:TreeAt w gt gi gd n idm dep)(a b:Int):
 Calls Tryz.prog 49 #[.pointer (some ⟨gt,0,none⟩),.int .i64 a,.int .i64 b] w (AboveP w (aboveB E n a b)):=by
 have hPP:∀r q,aboveB E n a b=r→AboveP w (aboveB E n a b) (.returned (.bool r)) (w.drewN q):=fun r q e=>⟨q,by rw[e],rfl⟩
 have HP:=eh hPP;clear hPP;generalize AboveP w (aboveB E n a b)=Post at*;have H1:=eh (fun i=>domThere_any T H i);cases ha:domTB E n a with
 |false=>
  have hB:aboveB E n a b=false:=dec_f fun h=>by
   have:=h.1;rw[show domTB E n a=true from dec_t this]at ha;cases ha
  have h1:=H1.out a;rw[ha]at h1;have H2:=eh h1;have HB:=eh hB;clear h1 hB ha;go_enter Tryz.func49,Tryz.ntmps49;go_wp2_with fail;refine(H2.out).mono ?_;rintro e w' ⟨rfl,rfl⟩;go_wp2;exact HP.out _ 0 HB.out
 |true=>
  have hta:domTP E n a:=dec_p ha;cases hb:domTB E n b with
  |false=>
   have hB:aboveB E n a b=false:=dec_f fun h=>by
    have:=h.2.1;rw[show domTB E n b=true from dec_t this]at hb;cases hb
   have h1:=H1.out a;rw[ha]at h1;have h2:=H1.out b;rw[hb]at h2;have H2:=eh h1;have H3:=eh h2;have HB:=eh hB;clear h1 h2 hB ha hb;go_enter Tryz.func49,Tryz.ntmps49;go_wp2_with fail;refine(H2.out).mono ?_;rintro e w' ⟨rfl,rfl⟩;go_wp2_with fail;refine(H3.out).mono ?_;rintro e w' ⟨rfl,rfl⟩;go_wp2;exact HP.out _ 0 HB.out
  |true=>
   have htb:domTP E n b:=dec_p hb;have h1:=H1.out a;rw[ha]at h1;have h2:=H1.out b;rw[hb]at h2;have H2:=eh h1;have H3:=eh h2;clear h1 h2 ha hb;obtain⟨a,rfl⟩:∃k:Nat,a=k:=⟨a.toNat,by have:=hta.1;omega⟩;obtain⟨b,rfl⟩:∃k:Nat,b=k:=⟨b.toNat,by have:=htb.1;omega⟩;have hra:Reach E a:=by simpa using hta.2.2
   have hrb:Reach E b:=by simpa using htb.2.2
   have hla:a<n:=by have:=hta.2.1;omega
   have hlb:b<n:=by have:=htb.2.1;omega
   have HE:=eh (show aboveB E n a b=true↔Dm E a b from⟨fun h=>by simpa using(dec_p h).2.2,fun h=>dec_t ⟨hta,htb,by simpa using h⟩⟩);have HT:=eh T;have Hra:=eh hra;have Hrb:=eh hrb;obtain⟨t1,t2,bi,bd⟩:=H;have ya:=uH bd (show a<dep.length by rw[T.ld];exact hla);have a0:(0:Int)≤a:=by omega
   have a1:(a:Int)<n:=by omega
   clear hta htb hra hrb T;generalize hda:dep.getD a 0=da at ya;have Hda:=eh hda;clear hda;go_enter Tryz.func49,Tryz.ntmps49;go_wp2_with fail;refine(H2.out).mono ?_;rintro e w' ⟨rfl,rfl⟩;go_wp2_with fail;refine(H3.out).mono ?_;rintro e w' ⟨rfl,rfl⟩;go_wp2;go_loopg [2] ((dep.getD b 0).toNat+1) (fun k bv wr=>∃b' q:Nat,bv=.int .i64 (b':Int)∧b'<n∧Hid (Reach E b')∧Hid (Dm E a b↔Dm E a b')∧(dep.getD b' 0).toNat<k∧wr=w.drewN q)
   case atStart=>exact⟨b,0,rfl,hlb,Hrb,eh Iff.rfl,Nat.lt_succ_self _,rfl⟩
   case round=>
    obtain⟨b',q,rfl,hb',hr',hD,hk,rfl⟩:=hrel;have yb:=uH bd (show b'<dep.length by rw[HT.out.ld];exact hb');have yi:=uH bi (show b'<idm.length by rw[HT.out.li];exact hb');have b0:(0:Int)≤b':=by omega
    have b1:(b':Int)<n:=by omega
    have hnn:=HT.out.dep0 hla Hra.out
    by_cases hd:dep.getD a 0<dep.getD b' 0
    ·obtain⟨u,hu,hul,hur,huD,hud⟩:=HT.out.above_step hla Hra.out hb' hr'.out hd;have hu0:=HT.out.dep0 hul hur;rw[hu]at yi;rw[Hda.out]at hd;have hk2:(dep.getD u 0).toNat<(dep.getD b' 0).toNat:=by omega
     have hD':=eh (hD.out.trans huD);have Hur:=eh hur;generalize hdb:dep.getD b' 0=db at*;have Hdb:=eh hdb;have g1:decide (da<db)=true:=by simpa using hd
     clear hdb hu hur huD hud hu0 hnn hD hr' hd;go_wp2;go_quiet (fail);rename Nat=>q2
     go_wp2;go_roundg ((dep.getD u 0).toNat+1)
     case measure=>omega
     case rel=>exact⟨u,_,rfl,hul,Hur,hD',Nat.lt_succ_self _,by first|rfl|exact World.drewN_drewN _ _ _⟩
    ·have hend:=HT.out.above_end (a:=a) hb' hr'.out (by omega);rw[Hda.out]at hd;have HD:=eh (HE.out.trans (hD.out.trans hend));generalize hdb:dep.getD b' 0=db at*;have Hdb:=eh hdb;have g1:decide (da<db)=false:=by simpa using hd
     clear hdb hend hnn hD hr' hd
     by_cases hab:a=b'
     ·subst hab;have HB:=eh (HD.out.2 rfl);go_wp2;go_quiet (fail);rename Nat=>q2
      go_wp2
      first|exact HP.out _ _ HB.out|(rw[World.drewN_drewN];exact HP.out _ _ HB.out)
     ·have hB:aboveB E n a b=false:=by
       cases h:aboveB E n a b with
       |false=>rfl
       |true=>exact absurd (HD.out.1 h) hab
      have HB:=eh hB;have g2:((a:Int)==(b':Int))=false:=by
       have :(a:Int)≠b':=by omega
       simpa using this
      have g3:(a==b')=false:=by simpa using hab
      clear hB hab;go_wp2;go_quiet (fail);rename Nat=>q2
      go_wp2
      first|exact HP.out _ _ HB.out|(rw[World.drewN_drewN];exact HP.out _ _ HB.out)
def KB(S:Nat→Prop)(w w':World):Prop:=∀b,S b→w'.heap[b]? =w.heap[b]?
section
variable {w w' w2:World} {S S':Nat→Prop}
theorem KB.refl(S:Nat→Prop)(w:World):KB S w w:=fun _ _=>rfl
theorem KB.trans(h1:KB S w w')(h2:KB S w' w2):KB S w w2:=fun b hb=>(h2 b hb).trans (h1 b hb)
theorem KB.sub(h:KB S w w')(hs:∀b,S' b→S b):KB S' w w':=fun b hb=>h b (hs b hb)
theorem KB.set{p:Addr}(h:KB S w w')(hp:¬S p.block)(u:Value):KB S w (w'.setCell p u):=fun b hb=>(Below.heap_setCell _ _ _ _ (fun e=>hp (e▸hb))).trans (h b hb)
theorem KB.alloc(h:KB S w w')(hS:∀b,S b→b<w'.heap.size)(o:Obj):KB S w (w'.alloc o):=fun b hb=>(Below.heap_alloc w' o b (hS b hb)).trans (h b hb)
theorem KB.grown{row:Option Nat}(h:KB S w w')(hg:w'.grownBy w2 row)(hS:∀b,S b→b<w'.heap.size)(hne:∀b,S b→some b≠row):KB S w w2:=fun b hb=>(hg.block b (hS b hb) (hne b hb)).trans (h b hb)
theorem KB.below{B:Nat}(h:KB S w w')(hb:Below B w' w2)(hS:∀b,S b→b<B):KB S w w2:=fun b hs=>(hb.block b (hS b hs)).trans (h b hs)
theorem KB.of_below{B:Nat}(hb:Below B w w')(hs:∀b,S b→b<B):KB S w w':=fun b h=>hb.block b (hs b h)
theorem KB.of_grown{row:Option Nat}(hg:w.grownBy w' row)(hS:∀b,S b→b<w.heap.size)(hne:∀b,S b→some b≠row):KB S w w':=fun b hb=>hg.block b (hS b hb) (hne b hb)
theorem KB.kept(h:KB S w w'):Kept S w w':=fun p hp=>World.cell?_of_block (h p.block hp)
theorem Blk.kb{g:Nat}{t:TypeId}{cs:Array Value}(h:Blk w g t cs)(hk:KB S w w')(hg:S g):Blk w' g t cs:=(hk g hg).trans h
theorem own_kb{base:Nat}{e:TypeId}{size n:Nat}{v:Value}{xs:List Value}(h:w.ownsRow base e size v n xs)(hk:∀g,v.ownBlock=some g→w'.heap[g]? =w.heap[g]?):w'.ownsRow base e size v n xs:=by
 refine⟨h.1,?_⟩;rcases h.2 with h0|⟨g,cap,cur,hv,h1,h2,h3⟩
 ·exact .inl h0
 ·exact .inr ⟨g,cap,cur,hv,h1,by rw[hk g (by subst hv;rfl)];exact h2,h3⟩
theorem OwnMat.kb{base:Nat}{e:TypeId}{hs:List (Option Addr×Nat)}{ls:List (List Int)}(M:OwnMat w base e hs ls)(hk:KB S w w')(hS:∀(k:Nat) (h:Option Addr×Nat) (b:Nat),hs[k]? =some h→h.1.map (·.block)=some b→S b):OwnMat w' base e hs ls:=
 ⟨M.len,fun k h l h1 h2=>own_kb (M.own k h l h1 h2) (fun g hg=>hk g (hS k h g h1 (by rw[←hdr_block h l];exact hg))),M.apart⟩
theorem OwnMat.turn{base:Nat}{e:TypeId}{hs:List (Option Addr×Nat)}{ls:List (List Int)}(M:OwnMat w base e hs ls){k:Nat}{A:Option Addr}{c:Nat}{l':List Int}(hk:hs[k]? =some (A,c))(hkl:k<ls.length)(hl:l'.length=(ls.getD k []).length)
 (hown:w'.ownsRow base e 1 (.slice A l'.length c) l'.length (ints l'))(hg:w.grownBy w' (Value.slice A (ls.getD k []).length c).ownBlock):OwnMat w' base e hs (ls.set k l'):=by
 have e1:hs.set k (A,c)=hs:=by
  apply List.ext_getElem?;intro i
  by_cases e:k=i
  ·subst e;rw[List.getElem?_set_self (by rw[M.len];exact hkl),hk]
  ·rw[List.getElem?_set_ne e]
 have:=M.grown (k:=k) (n:=l'.length) (m:=(ls.getD k []).length) (A':=A) (c':=c) (l':=l') hk hkl hown rfl rfl hg (.inl (by cases A<;>rfl))
 rwa [e1]at this
end
theorem OwnMat.rd2{w:World}{base:Nat}{e:TypeId}{hs:List (Option Addr×Nat)}{ls:List (List Int)}{G:Nat}{t:TypeId}(M:OwnMat w base e hs ls)(hG:Blk w G t ⟨hdrs hs ls⟩){S:Nat→Prop}(hSG:S G)(hS:∀(k:Nat) (h:Option Addr×Nat) (b:Nat),hs[k]? =some h→h.1.map (·.block)=some b→S b):RdL rowShape w S (some ⟨G,0,none⟩) ls:=by
 refine⟨hs,M.len,?_,fun k l h h1 h2=>?_⟩
 ·have e:rowShape.cells ls hs=hdrs hs ls:=by
   unfold Shape.cells hdrs rowShape;simp only;have hl:=M.len;clear M hG hS;induction ls generalizing hs with
   |nil=>simp
   |cons l ls ih=>
    cases hs with
    |nil=>simp at hl
    |cons h hs=>
     simp only[List.zip_cons_cons,List.flatMap_cons,List.zipWith_cons_cons,List.cons_append,List.nil_append];rw[ih (by simpa using hl)]
  rw[e];exact⟨by rw[hdrs_len M.len];exact(Nat.mul_one _).symm,fun _=>⟨G,0,rfl,hSG,fun j u hu=>by rw[Nat.zero_add,hG.cell];simpa using hu⟩⟩
 ·have ho:=M.own k h l h2 h1;obtain⟨A,c⟩:=h;refine⟨by simp[ints],fun hn=>?_⟩;rcases ho.2 with⟨hv,hn0⟩|⟨g,cap,cur,hv,hb,hh,_⟩
  ·omega
  ·cases hv;refine⟨g,0,rfl,hS k _ g h2 rfl,fun j u hu=>?_⟩;have:=ho.cells (g:=g) rfl j u hu;have e1:(⟨g,0,none⟩:Addr).add j=⟨g,0+j,none⟩:=by
    unfold Addr.add
    by_cases hj:j=0<;>simp[hj]
   rwa [e1]at this
theorem own_rds{w:World}{base:Nat}{e:TypeId}{size n c g:Nat}{xs:List Value}(h:w.ownsRow base e size (.slice (some ⟨g,0,none⟩) n c) n xs){S:Nat→Prop}(hS:S g):RdS w S size (some ⟨g,0,none⟩) n xs:=by
 refine⟨h.1,fun hn=>⟨g,0,rfl,hS,fun j u hu=>?_⟩⟩;have:=h.cells (g:=g) rfl j u hu;have e1:(⟨g,0,none⟩:Addr).add j=⟨g,0+j,none⟩:=by
  unfold Addr.add
  by_cases hj:j=0<;>simp[hj]
 rwa [e1]at this
def initF(k n:Nat):List Int:=List.replicate k (-1)++List.replicate (n-k) 0
theorem initF_len{k n:Nat}(h:k≤n):(initF k n).length=n:=by simp[initF];omega
theorem initF_zero(n:Nat):initF 0 n=List.replicate n 0:=by simp[initF]
theorem initF_all(n:Nat):initF n n=List.replicate n (-1):=by simp[initF]
theorem initF_set{k n:Nat}(h:k<n):(initF k n).set k (-1)=initF (k+1) n:=by
 unfold initF;rw[List.set_append_right _ _ (by simp),List.length_replicate,Nat.sub_self];obtain⟨m,hm⟩:∃m,n-k=m+1:=⟨n-k-1,by omega⟩;rw[hm,List.replicate_succ,List.set_cons_zero,show n-(k+1)=m by omega];rw[show List.replicate (k+1) (-1:Int)=List.replicate k (-1)++[-1]from List.replicate_succ',List.append_assoc];rfl
section
variable {l:List Nat} {n k i u:Nat} {al dl idl:List Int} {E:Nat→Nat→Prop}
structure AtK(l:List Nat)(k n:Nat)(al:List Int):Prop where
 len:al.length=n
 yes:∀m i,m<k→l[m]? =some i→al.getD i 0=m
 no:∀j,j<n→j∉l.take k→al.getD j 0= -1
theorem nodup_at(h:l.Nodup){m m':Nat}(h1:l[m]? =some i)(h2:l[m']? =some i):m=m':=by
 obtain⟨a1,rfl⟩:=List.getElem?_eq_some_iff.1 h1;obtain⟨a2,e⟩:=List.getElem?_eq_some_iff.1 h2;exact(List.getElem_inj h).1 e.symm
theorem AtK.start:AtK l 0 n (List.replicate n (-1)):=by
 refine⟨by simp,fun m i h=>by omega,fun j hj _=>?_⟩;simp[List.getD_eq_getElem?_getD,hj]
theorem AtK.step(H:AtK l k n al)(hl:l.Nodup)(hi:l[k]? =some i)(hn:i<n):AtK l (k+1) n (al.set i k):=by
 have hil:i<al.length:=by rw[H.len];exact hn
 have hg:∀j,(al.set i (k:Int)).getD j 0=if j=i then(k:Int)else al.getD j 0:=fun j=>by
  by_cases e:j=i
  ·subst e;simp[hil]
  ·have e':¬i=j:=fun h=>e h.symm
   simp[e,e']
 refine⟨by simp[H.len],fun m j hm hj=>?_,fun j hj hno=>?_⟩
 ·rw[hg]
  by_cases e:j=i
  ·subst e;rw[if_pos rfl,nodup_at hl hj hi]
  ·rw[if_neg e];have :m≠k:=fun h=>by subst h;rw[hi]at hj;cases hj;exact e rfl
   exact H.yes m j (by omega) hj
 ·rw[List.take_add_one,hi,List.mem_append]at hno;rw[hg,if_neg (fun e=>hno (.inr (by simp[e])))];exact H.no j hj (fun h=>hno (.inl h))
theorem idx_at(hl:l.Nodup){m:Nat}(h:l[m]? =some i):l.idxOf i=m:=by
 obtain⟨a1,rfl⟩:=List.getElem?_eq_some_iff.1 h;exact hl.idxOf_getElem m a1
theorem at_idx(h:i∈l):l[l.idxOf i]? =some i:=by
 have:=List.idxOf_lt_length_of_mem h;rw[List.getElem?_eq_getElem this,List.getElem_idxOf this]
theorem AtK.fin(H:AtK l l.length n al)(hl:l.Nodup)(hn:∀i∈l,i<n):AtL l (fun k=>l.idxOf k) n al:=by
 refine⟨H.len,fun i hi=>⟨hn i hi,H.yes _ i (List.idxOf_lt_length_of_mem hi) (at_idx hi)⟩,fun j hj hno=>H.no j hj (by rw[List.take_length];exact hno)⟩
structure DepK(idl:List Int)(l:List Nat)(n k:Nat)(dl:List Int):Prop where
 len:dl.length=n
 root:dl.getD 0 0=0
 low:∀m i,m≤k→l[m]? =some i→0≤dl.getD i 0∧dl.getD i 0≤m
 up:∀m i,1≤m→m≤k→l[m]? =some i→∀u:Nat,idl.getD i 0=u→dl.getD i 0=dl.getD u 0+1
theorem DepK.start:DepK idl l n 0 (List.replicate n 0):=by
 have hz:∀j,(List.replicate n (0:Int)).getD j 0=0:=fun j=>by
  simp only[List.getD_eq_getElem?_getD,List.getElem?_replicate];split<;>rfl
 exact⟨by simp,hz 0,fun m i _ _=>by rw[hz];omega,fun m i h1 h2=>by omega⟩
theorem DepK.step(H:DepK idl l n k dl)(hl:l.Nodup)(h0:l[0]? =some 0)(hU:∀m i (u:Nat),1≤m→l[m]? =some i→idl.getD i 0=u→∃m',m'<m∧l[m']? =some u)(hi:l[k+1]? =some i)(hn:i<n)(hu:idl.getD i 0=(u:Int)):
 DepK idl l n (k+1) (dl.set i (dl.getD u 0+1)):=by
 have hil:i<dl.length:=by rw[H.len];exact hn
 have hg:∀(v:Int) j,(dl.set i v).getD j 0=if j=i then v else dl.getD j 0:=fun v j=>by
  by_cases e:j=i
  ·subst e;simp[hil]
  ·have e':¬i=j:=fun h=>e h.symm
   simp[e,e']
 have hne:∀m j,m≤k→l[m]? =some j→j≠i:=fun m j hm hj e=>by
  subst e;have:=nodup_at hl hj hi;omega
 obtain⟨m',hm',hum⟩:=hU (k+1) i u (by omega) hi hu;have hui:u≠i:=hne m' u (by omega) hum;have hul:=H.low m' u (by omega) hum;refine⟨by simp[H.len],?_,fun m j hm hj=>?_,fun m j h1 hm hj v hv=>?_⟩
 ·rw[hg,if_neg (hne 0 0 (by omega) h0).symm.symm];exact H.root
 ·by_cases e:m=k+1
  ·subst e;rw[hi]at hj;cases hj;rw[hg,if_pos rfl];omega
  ·rw[hg,if_neg (hne m j (by omega) hj)];exact H.low m j (by omega) hj
 ·obtain⟨m2,hm2,hv2⟩:=hU m j v h1 hj hv;have hvi:v≠i:=hne m2 v (by omega) hv2
  by_cases e:m=k+1
  ·subst e;rw[hi]at hj;cases hj;rw[hu]at hv;obtain rfl:u=v:=by omega
   rw[hg,if_pos rfl,hg,if_neg hui]
  ·rw[hg,if_neg (hne m j (by omega) hj),hg,if_neg hvi];exact H.up m j h1 (by omega) hj v hv
theorem done_up(D:DoneL E l (fun k=>l.idxOf k) n idl)(hl:l.Nodup)(h0:l[0]? =some 0){m:Nat}(h1:1≤m)(hi:l[m]? =some i):∃u:Nat,idl.getD i 0=u∧∃m',m'<m∧l[m']? =some u:=by
 have hmem:=List.mem_of_getElem? hi;have hi0:i≠0:=fun e=>by subst e;have:=nodup_at hl hi h0;omega
 obtain⟨u,a1,a2,a3,a4⟩:=D.up i hmem hi0;rw[idx_at hl hi]at a3;exact⟨u,a1,l.idxOf u,a3,at_idx a2⟩
theorem tree_of{pos tp:Nat→Nat}(D:DoneL E l (fun k=>l.idxOf k) n idl)(O:Ordd E l pos tp)(hl:l.Nodup)(h0:l[0]? =some 0)(hn:∀i∈l,i<n)(H:DepK idl l n (l.length-1) dl):TreeOk E n idl dl:=by
 refine⟨D.len,H.len,fun _=>⟨D.root,H.root⟩,fun k hk hr=>D.out k hk (fun h=>hr ((O.mem k).1 h)),fun k hk hk0 hr=>?_⟩;have hmem:=(O.mem k).2 hr;obtain⟨u,a1,a2,a3,a4⟩:=D.up k hmem hk0;have hm:=at_idx hmem;have hlt:=List.idxOf_lt_length_of_mem hmem;have h1:1≤l.idxOf k:=by
  rcases Nat.eq_zero_or_pos (l.idxOf k)with h|h
  ·rw[h,h0]at hm;cases hm;exact absurd rfl hk0
  ·exact h
 exact⟨u,a1,hn u a2,(O.mem u).1 a2,a4,H.up _ k h1 (by omega) hm u a1,(H.low _ u (by have:=List.idxOf_lt_length_of_mem a2;omega) (at_idx a2)).1⟩
end
theorem reach_lt{g:List (List Int)}{k:Nat}(h:Reach (EI g) k)(h0:0<g.length):k<g.length:=by
 cases h with
 |zero=>exact h0
 |step _ e=>exact e.1
theorem predsF_le(g:List (List Int))(k:Nat):((predsF (cleanF g)).getD k []).length≤g.length:=by
 by_cases hk:k<g.length
 ·unfold predsF;rw[cleanF_len,List.getD_eq_getElem?_getD,List.getElem?_map,List.getElem?_range hk];simp only[Option.map_some,Option.getD_some];exact Nat.le_trans (List.length_filter_le _ _) (by simp)
 ·rw[List.getD_eq_getElem?_getD,List.getElem?_eq_none (by simp[predsF,cleanF_len];omega)];simp
theorem hdrs_turn{hs:List (Option Addr×Nat)}{ls:List (List Int)}{k:Nat}{A:Option Addr}{c:Nat}{l':List Int}(hk:hs[k]? =some (A,c))(hkl:k<ls.length)(hl:l'.length=(ls.getD k []).length):hdrs hs (ls.set k l')=hdrs hs ls:=by
 unfold hdrs;apply List.ext_getElem?;intro i;rw[List.getElem?_zipWith,List.getElem?_zipWith]
 by_cases e:k=i
 ·subst e;rw[List.getElem?_set_self hkl,hk];have :ls[k]? =some (ls.getD k []):=by simp[hkl]
  rw[this];simp only[hdr,hl]
 ·rw[List.getElem?_set_ne e]
structure KX(X:Nat→Prop)(w w':World):Prop where
 os:w'.os=w.os
 tape:w'.tape=w.tape
 output:w'.output=w.output
 size:w.heap.size≤w'.heap.size
 block:∀b,b<w.heap.size→¬X b→w'.heap[b]? =w.heap[b]?
section
variable {w w' w2:World} {X Y:Nat→Prop} {B g:Nat} {t:TypeId} {cs:Array Value}
theorem KX.refl(X:Nat→Prop)(w:World):KX X w w:=⟨rfl,rfl,rfl,Nat.le_refl _,fun _ _ _=>rfl⟩
theorem KX.trans(h:KX X w w')(k:KX X w' w2):KX X w w2:=⟨k.os.trans h.os,k.tape.trans h.tape,k.output.trans h.output,Nat.le_trans h.size k.size,fun b hb hx=>(k.block b (Nat.lt_of_lt_of_le hb h.size) hx).trans (h.block b hb hx)⟩
theorem KX.mono(h:KX X w w')(hx:∀b,b<w.heap.size→X b→Y b):KX Y w w':=⟨h.os,h.tape,h.output,h.size,fun b hb hn=>h.block b hb (fun hX=>hn (hx b hb hX))⟩
theorem KX.of_grown{row:Option Nat}(h:w.grownBy w' row)(hr:∀g,row=some g→X g):KX X w w':=⟨h.os,h.tape,h.output,h.size,fun b hb hx=>h.block b hb (fun e=>hx (hr b e.symm))⟩
theorem KX.of_below(h:Below B w w')(hB:w.heap.size≤B):KX X w w':=⟨h.os,h.tape,h.output,h.size,fun b hb _=>h.block b (Nat.lt_of_lt_of_le hb hB)⟩
theorem KX.new(h:KX X w w'){row:Option Nat}(hg:w'.grownBy w2 row)(hr:∀g,row=some g→g<w.heap.size→X g):KX X w w2:=
 ⟨hg.os.trans h.os,hg.tape.trans h.tape,hg.output.trans h.output,Nat.le_trans h.size hg.size,fun b hb hx=>(hg.block b (Nat.lt_of_lt_of_le hb h.size) (fun e=>hx (hr b e.symm hb))).trans (h.block b hb hx)⟩
theorem KX.kb(h:KX X w w'){S:Nat→Prop}(hS:∀b,S b→b<w.heap.size∧¬X b):KB S w w':=fun b hb=>h.block b (hS b hb).1 (hS b hb).2
theorem KX.kept(h:KX X w w'){S:Nat→Prop}(hS:∀b,S b→b<w.heap.size∧¬X b):Kept S w w':=(h.kb hS).kept
theorem Blk.kx(h:Blk w g t cs)(k:KX X w w')(hx:¬X g):Blk w' g t cs:=(k.block g h.lt hx).trans h
end
end Go.Proofs.YtgbgbmdiomhfiaaGreatDoor