/-
 Vr6.
-/
import Derived.Test.YtgbgbmdiomhfiaaGreatDoorJVr1
import Derived.Test.YtgbgbmdiomhfiaaGreatDoorJVr5
import Derived.Test.YtgbgbmdiomhfiaaGreatDoorJPgEff3
import Derived.Test.YtgbgbmdiomhfiaaGreatDoorJRegPar
import Derived.Test.YtgbgbmdiomhfiaaGreatDoorJKx
set_option linter.unusedSimpArgs false
set_option linter.unusedVariables false
set_option maxHeartbeats 8000000
set_option maxRecDepth 100000
namespace Go.Proofs.YtgbgbmdiomhfiaaGreatDoor
open Go.RowKit Go.Maps
theorem made_strs(n:Nat):madeCells #[.string ⟨#[]⟩] n=⟨(List.replicate n (⟨#[]⟩:ByteArray)).map Value.string⟩:=by
 unfold madeCells;apply Array.ext
 ·simp
 ·intro i h1 h2;simp[Nat.mod_one]
theorem made_bools(n:Nat):madeCells #[.bool false] n=⟨(List.replicate n false).map Value.bool⟩:=by
 unfold madeCells;apply Array.ext
 ·simp
 ·intro i h1 h2;simp[Nat.mod_one]
theorem infoStrV:(Tryz.prog.info? 9).map (fun i=>(i.zero,i.size,i.bytes))=some (some (.string ⟨#[]⟩),1,16):=by kernel_rfl
theorem infoBoolV:(Tryz.prog.info? 4).map (fun i=>(i.zero,i.size,i.bytes))=some (some (.bool false),1,1):=by kernel_rfl
theorem strs_cell{w:World}{g:Nat}{t:TypeId}{l:List ByteArray}(h:Blk w g t ⟨l.map Value.string⟩){k:Nat}(hk:k<l.length):w.cell? ⟨g,k,none⟩=some (.string (l.getD k ⟨#[]⟩)):=by
 rw[h.cell];simp[hk]
theorem bls_cell{w:World}{g:Nat}{t:TypeId}{l:List Bool}(h:Blk w g t ⟨l.map Value.bool⟩){k:Nat}(hk:k<l.length):w.cell? ⟨g,k,none⟩=some (.bool (l.getD k false)):=by
 rw[h.cell];simp[hk]
theorem strs_set{w:World}{g:Nat}{t:TypeId}{l:List ByteArray}(h:Blk w g t ⟨l.map Value.string⟩)(k:Nat)(x:ByteArray):Blk (w.setCell ⟨g,k,none⟩ (.string x)) g t ⟨(l.set k x).map Value.string⟩:=by
 have:=h.set_ k (.string x);rw[List.map_set];simpa using this
theorem bls_set{w:World}{g:Nat}{t:TypeId}{l:List Bool}(h:Blk w g t ⟨l.map Value.bool⟩)(k:Nat)(x:Bool):Blk (w.setCell ⟨g,k,none⟩ (.bool x)) g t ⟨(l.set k x).map Value.bool⟩:=by
 have:=h.set_ k (.bool x);rw[List.map_set];simpa using this
theorem max3(a b c:Nat):(if(if a<b then(b:Int)else a)<c then(c:Int)else if a<b then(b:Int)else a)=((max (max a b) c:Nat):Int):=by
 split<;>split<;>omega
theorem rd_apart{w:World}{n:Nat}{A:Option Addr}{l:List Int}{gs ge:Nat}{t1 t2:TypeId}{ss:List ByteArray}{bs:List Bool}(h:Rd w w.heap.size 1 A n (ints l))(h1:Blk w gs t1 ⟨ss.map Value.string⟩)(h2:Blk w ge t2 ⟨bs.map Value.bool⟩):RdS w (fun b=>b≠gs∧b≠ge∧b<w.heap.size) 1 A n (ints l):=by
 refine⟨h.1,fun hn=>?_⟩;obtain⟨b,off,e,hb,hc⟩:=h.2 hn;have hl:0<l.length:=by have:=h.1;simp[ints]at this;omega
 have h0:=hc 0 (.int .i64 (l[0]'hl)) (by simp[ints,hl]);refine⟨b,off,e,⟨fun e=>?_,fun e=>?_,hb⟩,hc⟩
 ·subst e;rw[h1.cell]at h0;simp at h0
 ·subst e;rw[h2.cell]at h0;simp at h0
def LookPost(w:World)(n:Nat)(s:Vs)(e:Ending)(w':World):Prop:=
 ∃gs ge,e=.returned (.tuple #[.agg #[.slice (some ⟨gs,0,none⟩) n n,.slice (some ⟨ge,0,none⟩) n n,.int .i64 s.most],.int .i64 0,.nilIface])∧Blk w' gs 9 ⟨s.stacks.map Value.string⟩∧Blk w' ge 4 ⟨s.seen.map Value.bool⟩∧w.heap.size≤gs∧w.heap.size≤ge∧Below w.heap.size w w'
theorem look_any(Ac Am:Option Addr)(cc cm:Nat)(p:Prg)(i:Nat)(mm:Mth)(A:Option Addr)(c:Nat)(w:World)(hr:RdP w w.heap.size Ac Am p)(hp:POk p)(hi:i<p.methods.length)(hmi:p.methods.getD i default=mm)
 (hcode:Rd w w.heap.size 4 A mm.code.length (icells mm.code))(hlen:mm.code.length≤1000)(hl0:0<mm.code.length)(hops:∀k,k<mm.code.length→1≤(mm.code.getD k default).op∧(mm.code.getD k default).op≤35)(hk:mm.pa.size+mm.lo.size≤1000)
 (hnx:∀k,k<mm.code.length→∀j∈nextF mm k,0≤j)(s:Vs)(hv:verM p mm=some s):
 Calls Tryz.prog 18 #[pv Ac cc Am cm p,.int .i64 i,mv A c mm] w (LookPost w mm.code.length s):=by
 have hPP:∀gs ge w',Blk w' gs 9 ⟨s.stacks.map Value.string⟩→Blk w' ge 4 ⟨s.seen.map Value.bool⟩→w.heap.size≤gs→w.heap.size≤ge→Below w.heap.size w w'→LookPost w mm.code.length s (.returned (.tuple #[.agg #[.slice (some ⟨gs,0,none⟩) mm.code.length mm.code.length,.slice (some ⟨ge,0,none⟩) mm.code.length mm.code.length,.int .i64 s.most],.int .i64 0,.nilIface])) w':=fun gs ge w' h1 h2 h3 h4 h5=>⟨gs,ge,rfl,h1,h2,h3,h4,h5⟩
 have HP:=eh hPP;clear hPP;generalize LookPost w mm.code.length s=Post at*;have hm1:=fun W=>run_make_row' (P:=Tryz.prog) 97 9 (.string ⟨#[]⟩) 16 Tryz.underlying97 infoStrV rfl .i64 .i64 mm.code.length (by omega) (by omega) W
 have hm2:=fun W=>run_make_row' (P:=Tryz.prog) 98 4 (.bool false) 1 Tryz.underlying98 infoBoolV rfl .i64 .i64 mm.code.length (by omega) (by omega) W
 rw[made_strs]at hm1;rw[made_bools]at hm2;have hmF:methodF p i=mm:=by rw[methodF_at hi];exact hmi
 have Hstep:=eh (fun(W:World) (hW:Below w.heap.size w W) k (hk':k<mm.code.length) st b h2 (h3:aftF p mm (mm.code.getD k default) st=some b)=>step_any Ac Am cc cm p (mm.code.getD k default) i st b W ((hr.below hW (Nat.le_refl _)).more hW.size) hp (by rw[hmF];exact hk) (hops k hk').1 (hops k hk').2 h2 (by rw[hmF];exact h3));have Hnext:=eh (fun(W:World) (hW:Below w.heap.size w W) (k:Nat)=>next_any A c mm k W ((hcode.below hW (Nat.le_refl _)).more hW.size) (by omega));have Hcode:=eh hcode;have HV:=eh (show vrun p mm (mm.code.length+1) (vstart mm)=some s from hv);have Hnx:=eh hnx;have HI0:=eh (VInv.start (p:=p) hl0);have bP0:=Blk.new w 31 #[.slice Ac p.classes.length cc,.slice Am p.methods.length cm];have bP1:=bP0.alloc (.cells #[.string mm.pa,.string mm.lo,.string mm.re,.slice A mm.code.length c] 27);have bP2:=bP1.alloc (.cells #[.slice none 0 0,.slice none 0 0,.int .i64 0] 100);have bM1:=Blk.newAt (w:=w.alloc (.cells #[.slice Ac p.classes.length cc,.slice Am p.methods.length cm] 31)) (g:=w.heap.size+1) (by simp) 27 #[.string mm.pa,.string mm.lo,.string mm.re,.slice A mm.code.length c];have bM2:=bM1.alloc (.cells #[.slice none 0 0,.slice none 0 0,.int .i64 0] 100);have bR2:=Blk.newAt (w:=(w.alloc (.cells #[.slice Ac p.classes.length cc,.slice Am p.methods.length cm] 31)).alloc (.cells #[.string mm.pa,.string mm.lo,.string mm.re,.slice A mm.code.length c] 27)) (g:=w.heap.size+1+1) (by simp) 100 #[.slice none 0 0,.slice none 0 0,.int .i64 0];have hb2:=(((Below.refl w.heap.size w).alloc (Nat.le_refl _) (.cells #[.slice Ac p.classes.length cc,.slice Am p.methods.length cm] 31)).alloc (by simp) (.cells #[.string mm.pa,.string mm.lo,.string mm.re,.slice A mm.code.length c] 27)).alloc (by simp;omega) (.cells #[.slice none 0 0,.slice none 0 0,.int .i64 0] 100);clear hv hnx hr hops hcode hmi bP0 bP1 bM1;go_enter Tryz.func18,Tryz.ntmps18;go_upto_region 1 with(fail);have hz3:((((w.alloc (.cells #[.slice Ac p.classes.length cc,.slice Am p.methods.length cm] 31)).alloc (.cells #[.string mm.pa,.string mm.lo,.string mm.re,.slice A mm.code.length c] 27)).alloc (.cells #[.slice none 0 0,.slice none 0 0,.int .i64 0] 100))).heap.size=w.heap.size+3:=by simp
 generalize(((w.alloc (.cells #[.slice Ac p.classes.length cc,.slice Am p.methods.length cm] 31)).alloc (.cells #[.string mm.pa,.string mm.lo,.string mm.re,.slice A mm.code.length c] 27)).alloc (.cells #[.slice none 0 0,.slice none 0 0,.int .i64 0] 100))=w3 at*;have Hz3:=eh hz3;clear hz3;go_cut [9]from 16 to 24 (fun v wx=>∃gs ge gx,v=.pointer (some ⟨gx,0,none⟩)∧Blk wx gx 100 #[.slice (some ⟨gs,0,none⟩) mm.code.length mm.code.length,.slice (some ⟨ge,0,none⟩) mm.code.length mm.code.length,.int .i64 0]∧Blk wx gs 9 ⟨(List.replicate mm.code.length (⟨#[]⟩:ByteArray)).map Value.string⟩∧Blk wx ge 4 ⟨(List.replicate mm.code.length false).map Value.bool⟩∧w3.heap.size≤gs∧w3.heap.size≤ge∧w3.heap.size≤gx∧gs≠ge∧gs≠gx∧ge≠gx∧Below w3.heap.size w3 wx)
 case first=>
  refine uE (S:=Below w3.heap.size w3) (fun _=>true) (by kernel_rfl) (Below.refl _ _).drew (fun HS=>?_);refine uB 0 16 rfl HS (.inl ⟨rfl,fun W hW=>by have hc:=(bM2.below hW bM2.lt).at3;go_simp;rfl⟩) ?_;simp only[pS];refine uB 1 17 rfl HS (.inl ⟨rfl,fun W hW=>by have hc:=(bM2.below hW bM2.lt).at3;go_simp;rfl⟩) ?_;simp only[pS];refine uB 2 18 rfl HS (.inl ⟨rfl,fun W hW=>by have hc:=(bM2.below hW bM2.lt).at3;go_simp;rfl⟩) ?_;simp only[pS];refine uB 4 20 rfl HS (.inl ⟨rfl,fun W hW=>by have hc:=(bM2.below hW bM2.lt).at3;go_simp;rfl⟩) ?_;simp only[pS];refine uB 5 21 rfl HS (.inl ⟨rfl,fun W hW=>by have hc:=(bM2.below hW bM2.lt).at3;go_simp;rfl⟩) ?_;simp only[pS];refine uB 6 22 rfl HS (.inl ⟨rfl,fun W hW=>by have hc:=(bM2.below hW bM2.lt).at3;go_simp;rfl⟩) ?_;simp only[pS];refine wpAnyJ_lit2 (w0:=w3) (fuel:=1) 3 7 8 9 19 23 24 9 undef undef undef undef (fun v1 v2=>.agg #[v1,v2,.int .i64 0])
   (fun lo hi v W=>lo+1=hi∧v=.slice (some ⟨lo,0,none⟩) mm.code.length mm.code.length∧Blk W lo 9 ⟨(List.replicate mm.code.length (⟨#[]⟩:ByteArray)).map Value.string⟩)
   (fun lo hi v W=>lo+1=hi∧v=.slice (some ⟨lo,0,none⟩) mm.code.length mm.code.length∧Blk W lo 4 ⟨(List.replicate mm.code.length false).map Value.bool⟩)
   (fun lo hi v W=>lo+1=hi∧v=.pointer (some ⟨lo,0,none⟩)∧Blk W lo 100 #[.slice none 0 0,.slice none 0 0,.int .i64 0])
   rfl rfl rfl rfl rfl rfl rfl rfl ?hA (by kernel_rfl) (by decide) (by decide) (by decide) (by decide) (by decide) (by decide) (by decide) (by decide) (by decide) (by decide) (by decide) (by decide) ?hr ?t1 ?t2 ?t3 ?s1 ?s2 ?s3 ?s4 ?more HS
  case hA=>simp only[A4,Act.put,List.setIfInBounds_toArray,List.set_cons_zero,List.set_cons_succ]
  case hr=>
   intro b1 b2 b3 b4;cases b1<;>cases b2<;>cases b3<;>cases b4<;>first|(intro h;cases h;done)|(intro _ h;cases(h rfl);done)|(intro _ _;kernel_rfl)
  case t1=>
   rintro lo hi v W W' ⟨h1,rfl,h3⟩ hb;exact⟨h1,rfl,h3.below hb h3.lt⟩
  case t2=>
   rintro lo hi v W W' ⟨h1,rfl,h3⟩ hb;exact⟨h1,rfl,h3.below hb h3.lt⟩
  case t3=>
   rintro lo hi v W W' ⟨h1,rfl,h3⟩ hb;exact⟨h1,rfl,h3.below hb h3.lt⟩
  case s1=>
   intro v2 v3 v4 w1 hb K hK;simp only[A4,Act.put,List.setIfInBounds_toArray,List.set_cons_zero,List.set_cons_succ]at hK⊢;have HK:=eh hK;clear hK;go_simp;exact HK.out _ _ ((Below.refl _ _).alloc (Nat.le_refl _) _) ⟨by simp,rfl,by simpa using Blk.new w1 9 (Array.replicate mm.code.length (Value.string ⟨#[]⟩))⟩
  case s2=>
   intro v1 v3 v4 w1 hb K hK;simp only[A4,Act.put,List.setIfInBounds_toArray,List.set_cons_zero,List.set_cons_succ]at hK⊢;have HK:=eh hK;clear hK;go_simp;exact HK.out _ _ ((Below.refl _ _).alloc (Nat.le_refl _) _) ⟨by simp,rfl,by simpa using Blk.new w1 4 (Array.replicate mm.code.length (Value.bool false))⟩
  case s3=>
   rintro v1 v2 v4 l1 h1 l2 h2 w1 hb ⟨-,rfl,-⟩ ⟨-,rfl,-⟩ K hK;simp only[A4,Act.put,List.setIfInBounds_toArray,List.set_cons_zero,List.set_cons_succ]at hK⊢;have HK:=eh hK;clear hK;go_simp;exact HK.out
  case s4=>
   intro v1 v2 v3 w1 hb K hK;simp only[A4,Act.put,List.setIfInBounds_toArray,List.set_cons_zero,List.set_cons_succ]at hK⊢;have HK:=eh hK;clear hK;go_simp;exact HK.out _ _ ((Below.refl _ _).alloc (Nat.le_refl _) _) ⟨by simp,rfl,Blk.new _ _ _⟩
  case more=>
   rintro v1 v2 v3 lo1 hi1 lo2 hi2 lo3 hi3 w1 HS ⟨c1,rfl,c3⟩ c4 c5 c6 ⟨d1,rfl,d3⟩ d4 d5 d6 ⟨e1,rfl,e3⟩ e4 e5 e6 p12 p13 p23;simp only[A4,Act.put,List.setIfInBounds_toArray,List.set_cons_zero,List.set_cons_succ];refine uN 10 rfl (fun K HK=>?_);have x0:=e3.at0;have x1:=e3.at1;have x2:=e3.at2;have f0:=e3.frozen 0;have f1:=e3.frozen 1;have f2:=e3.frozen 2;have hl3:=e3.lt;go_simp;have e5':=(((e3.set_ 0 (.slice (some ⟨lo1,0,none⟩) mm.code.length mm.code.length)).set_ 1 (.slice (some ⟨lo2,0,none⟩) mm.code.length mm.code.length)).set_ 2 (.int .i64 0));have c5':=(((c3.far (p:=⟨lo3,0,none⟩) (by show lo1≠lo3;omega) (.slice (some ⟨lo1,0,none⟩) mm.code.length mm.code.length)).far (p:=⟨lo3,1,none⟩) (by show lo1≠lo3;omega) (.slice (some ⟨lo2,0,none⟩) mm.code.length mm.code.length)).far (p:=⟨lo3,2,none⟩) (by show lo1≠lo3;omega) (.int .i64 0));have d5':=(((d3.far (p:=⟨lo3,0,none⟩) (by show lo2≠lo3;omega) (.slice (some ⟨lo1,0,none⟩) mm.code.length mm.code.length)).far (p:=⟨lo3,1,none⟩) (by show lo2≠lo3;omega) (.slice (some ⟨lo2,0,none⟩) mm.code.length mm.code.length)).far (p:=⟨lo3,2,none⟩) (by show lo2≠lo3;omega) (.int .i64 0));have hbS:=((HS.setCell (p:=⟨lo3,0,none⟩) (by show w3.heap.size≤lo3;omega) (.slice (some ⟨lo1,0,none⟩) mm.code.length mm.code.length)).setCell (p:=⟨lo3,1,none⟩) (by show w3.heap.size≤lo3;omega) (.slice (some ⟨lo2,0,none⟩) mm.code.length mm.code.length)).setCell (p:=⟨lo3,2,none⟩) (by show w3.heap.size≤lo3;omega) (.int .i64 0);refine HK.out _ _ (fun _=>hbS) ?_;clear HK;refine uD (by kernel_rfl) ?_ _;go_wp2_with fail;go_meet;exact⟨lo1,lo2,lo3,rfl,by simpa using e5',c5',d5',by omega,by omega,by omega,by omega,by omega,by omega,hbS⟩
 case rest=>
  obtain⟨gs,ge,gx,rfl,bX,bS,bE,s1,s2,s3,n1,n2,n3,hb⟩:=hcut;have hz3:=Hz3.out;have bP3:=bP2.below hb bP2.lt;have bM3:=bM2.below hb bM2.lt;have bR3:=bR2.below hb bR2.lt;have hbw:=hb2.trans (hb.mono (by omega));rw[hz3]at s1 s2 s3;clear bP2 bM2 bR2 hb2 hb hz3;clear Hz3;obtain⟨gd,hgd⟩:∃gd,gd=wc.heap.size:=⟨_,rfl⟩;have bD4:=Blk.newAt (w:=wc) (g:=gd) hgd.symm 4 ⟨(List.replicate mm.code.length false).map Value.bool⟩;have bX4:=bX.alloc (.cells ⟨(List.replicate mm.code.length false).map Value.bool⟩ 4);have bS4:=bS.alloc (.cells ⟨(List.replicate mm.code.length false).map Value.bool⟩ 4);have bE4:=bE.alloc (.cells ⟨(List.replicate mm.code.length false).map Value.bool⟩ 4);have bP4:=bP3.alloc (.cells ⟨(List.replicate mm.code.length false).map Value.bool⟩ 4);have bM4:=bM3.alloc (.cells ⟨(List.replicate mm.code.length false).map Value.bool⟩ 4);have bR4:=bR3.alloc (.cells ⟨(List.replicate mm.code.length false).map Value.bool⟩ 4);have hb4:=hbw.alloc hbw.size (.cells ⟨(List.replicate mm.code.length false).map Value.bool⟩ 4);have n4:gs≠gd:=by have:=bS.lt;omega
  have n5:ge≠gd:=by have:=bE.lt;omega
  have n6:gx≠gd:=by have:=bX.lt;omega
  have hgd3:w.heap.size+3≤gd:=by have:=bR3.lt;omega
  have ym:=bM3.at3;have lm:=bM3.lt;go_upto_region 3 with(fail);rw[←hgd];have hrep:(Array.replicate mm.code.length (Value.bool false))=⟨(List.replicate mm.code.length false).map Value.bool⟩:=by simp
  first|rw[hrep]|skip
  clear bX bS bE bP3 bM3 bR3 hbw ym hgd lm;generalize wc.alloc (.cells ⟨(List.replicate mm.code.length false).map Value.bool⟩ 4)=w4 at*;have x1:=bX4.at1;have xe:=bls_cell bE4 (k:=0) (by simpa using hl0);have fe:=bE4.frozen 0;have le:=bE4.lt;have lx:=bX4.lt;have l0i:(0:Int)<mm.code.length:=by omega
  go_upto_region 4 with(fail);have bE5:=bls_set bE4 0 true;have bX5:=bX4.far (p:=⟨ge,0,none⟩) (Ne.symm n3) (.bool true);have bS5:=bS4.far (p:=⟨ge,0,none⟩) n1 (.bool true);have bD5:=bD4.far (p:=⟨ge,0,none⟩) (Ne.symm n5) (.bool true);have bP5:=bP4.far (p:=⟨ge,0,none⟩) (by show w.heap.size≠ge;omega) (.bool true);have bM5:=bM4.far (p:=⟨ge,0,none⟩) (by show w.heap.size+1≠ge;omega) (.bool true);have bR5:=bR4.far (p:=⟨ge,0,none⟩) (by show w.heap.size+1+1≠ge;omega) (.bool true);have hb5:=hb4.setCell (p:=⟨ge,0,none⟩) (by show w.heap.size≤ge;omega) (.bool true);clear bE4 bX4 bS4 bD4 bP4 bM4 bR4 hb4 x1 xe fe le lx;generalize w4.setCell ⟨ge,0,none⟩ (.bool true)=w5 at*;go_loopg [11] (mm.code.length+1) (fun k pv wr=>∃s':Vs,Hid (vrun p mm k s'=some s)∧Hid (VInv p mm s')∧Blk wr gx 100 #[.slice (some ⟨gs,0,none⟩) mm.code.length mm.code.length,.slice (some ⟨ge,0,none⟩) mm.code.length mm.code.length,.int .i64 s'.most]∧Blk wr gs 9 ⟨s'.stacks.map Value.string⟩∧Blk wr ge 4 ⟨s'.seen.map Value.bool⟩∧Blk wr gd 4 ⟨s'.done.map Value.bool⟩∧Hid (KB (fun b=>b<w.heap.size+3) w5 wr)∧Below w.heap.size w wr)
  case atStart=>exact⟨vstart mm,HV,HI0,bX5,bS5,bE5,bD5,eh (KB.refl _ _),hb5⟩
  case round=>
   clear bX5 bS5 bE5 bD5 hb5;obtain⟨s',HR,HI,bX,bS,bE,bD,K,hb⟩:=hrel;have bM:=bM5.kb K.out (by omega);have bP:=bP5.kb K.out (by omega);have ym:=bM.at3;have x0:=bX.at0;have x1:=bX.at1;have x2:=bX.at2;have l1:=HI.out.l1;have l2:=HI.out.l2;have l3:=HI.out.l3;have lM:=bM.lt;have lX:=bX.lt;have lD:=bD.lt;have lE:=bE.lt;generalize wr=wo at*;go_wp2;go_loopw [11] (fun pv w2=>∃pc:Nat,pc≤mm.code.length∧pv=.int .i64 pc∧Hid (∀j,j<pc→(s'.seen.getD j false&& !s'.done.getD j false)=false)∧w2=wo) (fun pv _=>mm.code.length-(intOf pv).toNat)
   case atStart=>exact⟨0,Nat.zero_le _,rfl,eh (fun j h=>by omega),rfl⟩
   case round=>
    obtain⟨pc,hpc,rfl,Hpc,rfl⟩:=hrel
    by_cases hlt:pc<mm.code.length
    ·have k0:(0:Int)≤pc:=by omega
     have k1:(pc:Int)<mm.code.length:=by omega
     have ye:=bls_cell bE (show pc<s'.seen.length by omega);have yd:=bls_cell bD (show pc<s'.done.length by omega);have fd:=bD.frozen pc;generalize ha':s'.seen.getD pc false=a at*;generalize hd':s'.done.getD pc false=d at*;have Hrel:(a&& !d)=false→Hid (∀j,j<pc+1→(s'.seen.getD j false&& !s'.done.getD j false)=false):=fun h=>eh (fun j hj=>by
      by_cases e:j=pc
      ·subst e;rw[ha',hd'];exact h
      ·exact Hpc.out j (by omega))
     have Hha:=eh ha';have Hhd:=eh hd';clear ha' hd';cases a with
     |false=>
      have Hr:=Hrel rfl;clear Hrel;go_wp2;go_roundw
      case rel=>exact⟨pc+1,by omega,by go_num,Hr,by trivial⟩
      case measure=>simp[intOf];omega
     |true=>
      cases d with
      |true=>
       have Hr:=Hrel rfl;clear Hrel;go_wp2;go_roundw
       case rel=>exact⟨pc+1,by omega,by go_num,Hr,by trivial⟩
       case measure=>simp[intOf];omega
      |false=>
       clear Hrel;have hpick:=pick_at (s:=s') (n:=mm.code.length) (pc:=pc) (by omega) Hpc.out (fun _=>by rw[Hha.out,Hhd.out];rfl);have Hpk:=eh hpick;have g0:((pc:Int)==mm.code.length)=false:=by simp;omega
       have g1:(pc==mm.code.length)=false:=by simp;omega
       clear hpick;obtain⟨f',hf'⟩:∃f',gk=f'+1:=by
        cases f:gk with
        |zero=>have:=HR.out;rw[f]at this;cases this
        |succ f'=>exact⟨f',rfl⟩
       have hrun:=HR.out;rw[hf']at hrun;unfold vrun at hrun;rw[if_neg (by rw[Hpk.out];omega),Hpk.out]at hrun;obtain⟨s2,hlook,hrun2⟩:∃s2,lookF p mm s' pc=some s2∧vrun p mm f' s2=some s:=by
        cases h:lookF p mm s' pc with
        |none=>rw[h]at hrun;cases hrun
        |some s2=>rw[h]at hrun;exact⟨s2,rfl,hrun⟩
       have HI2:=eh (HI.out.look Hnx.out hlt Hha.out hlook);have HR2:=eh hrun2;unfold lookF at hlook;have hle:=HI.out.le pc;have ys:=strs_cell bS (show pc<s'.stacks.length by omega);generalize hst:s'.stacks.getD pc ⟨#[]⟩=st at*;have Hst:=eh hst;clear hst;obtain⟨b,hb1⟩:∃b,aftF p mm (mm.code.getD pc default) st=some b:=by
        cases h:aftF p mm (mm.code.getD pc default) st with
        |none=>rw[h]at hlook;cases hlook
        |some b=>exact⟨b,rfl⟩
       rw[hb1]at hlook;simp only at hlook;obtain⟨st2,se2,hfl⟩:∃st2 se2,flowTo mm.code.length b (nextF mm pc) s'.stacks s'.seen=some (st2,se2):=by
        cases h:flowTo mm.code.length b (nextF mm pc) s'.stacks s'.seen with
        |none=>rw[h]at hlook;cases hlook
        |some q=>exact⟨q.1,q.2,rfl⟩
       rw[hfl]at hlook;simp only[Option.some.injEq]at hlook;have Hs2:=eh hlook;have Hfl:=eh hfl;have Hb1:=eh hb1;have Hle:=eh hle;have Hlb:=eh (aftF_le hle hb1);have Hgk:=eh hf';have ym3:=bM.at3;clear hlook hfl hb1 hrun hrun2 hle hf';go_upto_region 10 with(fail);have bD2:=bls_set bD pc true;have bX2:=bX.far (p:=⟨gd,pc,none⟩) n6 (.bool true);have bS2:=bS.far (p:=⟨gd,pc,none⟩) n4 (.bool true);have bE2:=bE.far (p:=⟨gd,pc,none⟩) n5 (.bool true);have bP2:=bP.far (p:=⟨gd,pc,none⟩) (by show w.heap.size≠gd;omega) (.bool true);have bM2:=bM.far (p:=⟨gd,pc,none⟩) (by show w.heap.size+1≠gd;omega) (.bool true);have K2:=eh (K.out.set (p:=⟨gd,pc,none⟩) (by show¬gd<w.heap.size+3;omega) (.bool true));have hb2:=hb.setCell (p:=⟨gd,pc,none⟩) (by show w.heap.size≤gd;omega) (.bool true);clear bD bX bS bE bP bM K hb x0 x1 x2 ym ym3 ye yd ys fd lM lX lD lE;generalize wr.setCell ⟨gd,pc,none⟩ (.bool true)=w6 at*;obtain⟨bc,off,hA,hbc,z0,z1,z2,z3⟩:=ins_at (Hcode.out.below hb2 (Nat.le_refl _)) hlt;subst hA;have Hsp:=eh (fun W hW=>Hstep.out W hW pc hlt st b Hle.out Hb1.out);generalize mm.code.getD pc default=x at*;refine uE (S:=Below w6.heap.size w6) (fun _=>true) (by kernel_rfl) (Below.refl _ _).drew (fun HS=>?_);refine uB 0 63 rfl HS (.inl ⟨rfl,fun W hW=>by have hc:=(bP2.below hW bP2.lt).at0;have hc:=(bP2.below hW bP2.lt).at1;go_simp;rfl⟩) ?_;simp only[pS];refine uB 1 64 rfl HS (.inl ⟨rfl,fun W hW=>by go_simp;rfl⟩) ?_;simp only[pS];refine uB 2 65 rfl HS (.inl ⟨rfl,fun W hW=>by go_simp;rfl⟩) ?_;simp only[pS];refine uB 3 66 rfl HS (.inl ⟨rfl,fun W hW=>by have hc:=(bM2.below hW bM2.lt).at3;go_simp;rfl⟩) ?_;simp only[pS];refine uB 4 67 rfl HS (.inl ⟨rfl,fun W hW=>by go_simp;rfl⟩) ?_;simp only[pS];refine uB 5 68 rfl HS (.inl ⟨rfl,fun W hW=>by go_simp;rfl⟩) ?_;simp only[pS];refine uB 6 69 rfl HS (.inl ⟨rfl,fun W hW=>by have h0:=(hW.cell (p:=⟨bc,off+pc*4,none⟩) (Nat.lt_of_lt_of_le hbc hb2.size)).trans z0;have h1:=(hW.cell (p:=⟨bc,off+pc*4+1,none⟩) (Nat.lt_of_lt_of_le hbc hb2.size)).trans z1;have h2:=(hW.cell (p:=⟨bc,off+pc*4+2,none⟩) (Nat.lt_of_lt_of_le hbc hb2.size)).trans z2;have h3:=(hW.cell (p:=⟨bc,off+pc*4+3,none⟩) (Nat.lt_of_lt_of_le hbc hb2.size)).trans z3;go_simp;rfl⟩) ?_;simp only[pS];refine uB 7 70 rfl HS (.inl ⟨rfl,fun W hW=>by go_simp;rfl⟩) ?_;simp only[pS];refine uB 8 71 rfl HS (.inl ⟨rfl,fun W hW=>by have hc:=(bX2.below hW bX2.lt).at0;go_simp;rfl⟩) ?_;simp only[pS];refine uB 9 72 rfl HS (.inl ⟨rfl,fun W hW=>by go_simp;rfl⟩) ?_;simp only[pS];refine uB 10 73 rfl HS (.inl ⟨rfl,fun W hW=>by go_simp;rfl⟩) ?_;simp only[pS];refine uB 11 74 rfl HS (.inl ⟨rfl,fun W hW=>by have hc:=strs_cell (bS2.below hW bS2.lt) (show pc<s'.stacks.length by omega);rw[Hst.out]at hc;go_simp;rfl⟩) ?_;simp only[pS];refine uN 12 rfl (fun K HK=>?_);go_simp;refine(Hsp.out w6.drew hb2.drew).mono ?_;rintro e w7 ⟨rfl,hb67⟩;have hb67':Below w6.heap.size w6 w7:=(Below.refl _ _).drew.trans hb67;refine HK.out _ _ (fun _=>hb67') ?_;clear HK HS;refine uB 13 62 rfl hb67' (.inl ⟨rfl,fun W hW=>by go_simp;rfl⟩) ?_;simp only[pS];refine uB 14 76 rfl hb67' (.inl ⟨rfl,fun W hW=>by go_simp;rfl⟩) ?_;simp only[pS];refine uB 15 77 rfl hb67' (.inl ⟨rfl,fun W hW=>by go_simp;rfl⟩) ?_;simp only[pS];refine uB 16 12 rfl hb67' (.inl ⟨rfl,fun W hW=>by go_simp;rfl⟩) ?_;simp only[pS];refine uB 17 13 rfl hb67' (.inl ⟨rfl,fun W hW=>by go_simp;rfl⟩) ?_;simp only[pS];refine uD (by kernel_rfl) ?_ _;have bD3:=bD2.below hb67' bD2.lt;have bX3:=bX2.below hb67' bX2.lt;have bS3:=bS2.below hb67' bS2.lt;have bE3:=bE2.below hb67' bE2.lt;have bM3:=bM2.below hb67' bM2.lt;have hb3:=hb2.trans (hb67'.mono hb2.size);have K3:=eh (K2.out.below hb67' (fun b h=>by have:=bX2.lt;omega));clear bD2 bX2 bS2 bE2 bM2 hb2 K2 bP2 z0 z1 z2 z3 hb67 hb67';go_upto_region 13 with(fail);have x0:=bX3.at0;have x2:=bX3.at2;have ys:=strs_cell bS3 (show pc<s'.stacks.length by omega);rw[Hst.out]at ys;have fx2:=bX3.frozen 2
       refine uE (S:=fun W=>W.cell? ⟨gx,2,none⟩=some (.int .i64 s'.most)∧W.cell? ⟨gx,0,none⟩=some (.slice (some ⟨gs,0,none⟩) mm.code.length mm.code.length)∧W.cell? ⟨gs,pc,none⟩=some (.string st)) (fun j=> !(j==12)) (by kernel_rfl) ⟨x2,x0,ys⟩ (fun HS=>?_);refine uB 0 83 rfl HS (.inl ⟨rfl,fun W hW=>by obtain⟨hW1,hW2,hW3⟩:=hW;go_simp;rfl⟩) ?_;simp only[pS];refine uB 1 84 rfl HS (.inl ⟨rfl,fun W hW=>by obtain⟨hW1,hW2,hW3⟩:=hW;go_simp;rfl⟩) ?_;simp only[pS];refine uB 2 85 rfl HS (.inl ⟨rfl,fun W hW=>by obtain⟨hW1,hW2,hW3⟩:=hW;go_simp;rfl⟩) ?_;simp only[pS];refine uB 3 86 rfl HS (.inl ⟨rfl,fun W hW=>by obtain⟨hW1,hW2,hW3⟩:=hW;go_simp;rfl⟩) ?_;simp only[pS];refine uB 4 87 rfl HS (.inl ⟨rfl,fun W hW=>by obtain⟨hW1,hW2,hW3⟩:=hW;go_simp;rfl⟩) ?_;simp only[pS];refine uB 5 88 rfl HS (.inl ⟨rfl,fun W hW=>by obtain⟨hW1,hW2,hW3⟩:=hW;go_simp;rfl⟩) ?_;simp only[pS];refine uB 6 89 rfl HS (.inl ⟨rfl,fun W hW=>by obtain⟨hW1,hW2,hW3⟩:=hW;go_simp;rfl⟩) ?_;simp only[pS];refine uB 7 90 rfl HS (.inl ⟨rfl,fun W hW=>by obtain⟨hW1,hW2,hW3⟩:=hW;go_simp;rfl⟩) ?_;simp only[pS];refine uB 8 91 rfl HS (.inl ⟨rfl,fun W hW=>by obtain⟨hW1,hW2,hW3⟩:=hW;go_simp;rfl⟩) ?_;simp only[pS];refine uB 9 92 rfl HS (.inl ⟨rfl,fun W hW=>by obtain⟨hW1,hW2,hW3⟩:=hW;go_simp;rfl⟩) ?_;simp only[pS];refine uB 10 93 rfl HS (.inl ⟨rfl,fun W hW=>by obtain⟨hW1,hW2,hW3⟩:=hW;go_simp;rfl⟩) ?_;simp only[pS];refine uB 11 94 rfl HS (.inl ⟨rfl,fun W hW=>by obtain⟨hW1,hW2,hW3⟩:=hW;go_simp;rfl⟩) ?_;simp only[pS];refine uN 12 rfl (fun K HK=>?_);clear HS;go_simp;refine HK.out _ _ (fun h=>by cases h) ?_;clear HK;refine uD (by kernel_rfl) ?_ _;rw[max3];have bX4:=bX3.set_ 2 (.int .i64 ((max (max s'.most st.size) b.size:Nat):Int));have bS4:=bS3.far (p:=⟨gx,2,none⟩) n2 (.int .i64 ((max (max s'.most st.size) b.size:Nat):Int));have bE4:=bE3.far (p:=⟨gx,2,none⟩) n3 (.int .i64 ((max (max s'.most st.size) b.size:Nat):Int));have bD4:=bD3.far (p:=⟨gx,2,none⟩) (Ne.symm n6) (.int .i64 ((max (max s'.most st.size) b.size:Nat):Int));have bM4:=bM3.far (p:=⟨gx,2,none⟩) (by show w.heap.size+1≠gx;omega) (.int .i64 ((max (max s'.most st.size) b.size:Nat):Int));have hb4:=hb3.setCell (p:=⟨gx,2,none⟩) (by show w.heap.size≤gx;omega) (.int .i64 ((max (max s'.most st.size) b.size:Nat):Int));have K4:=eh (K3.out.set (p:=⟨gx,2,none⟩) (by show¬gx<w.heap.size+3;omega) (.int .i64 ((max (max s'.most st.size) b.size:Nat):Int)));clear bX3 bS3 bE3 bD3 bM3 hb3 K3 x0 x2 ys fx2;simp only[List.setIfInBounds_toArray,List.set_cons_zero,List.set_cons_succ]at bX4;generalize w7.setCell ⟨gx,2,none⟩ (.int .i64 ((max (max s'.most st.size) b.size:Nat):Int))=w8 at*;have z0:=bM4.at0;have z1:=bM4.at1;have z2:=bM4.at2;have z3:=bM4.at3;go_wp2_with fail;refine(Hnext.out w8.drew hb4.drew pc).mono ?_;rintro e w9 ⟨A2,n9,c9,hn9,rfl,hrd,hb89⟩;have hb89':Below w8.heap.size w8 w9:=(Below.refl _ _).drew.trans hb89;have bX5':=bX4.below hb89' bX4.lt;have bS5':=bS4.below hb89' bS4.lt;have bE5':=bE4.below hb89' bE4.lt;have bD5':=bD4.below hb89' bD4.lt;have bM5':=bM4.below hb89' bM4.lt;have hb5':=hb4.trans (hb89'.mono hb4.size);have K5:=eh (K4.out.below hb89' (fun b h=>by have:=bX4.lt;omega));have hrow:=rd_apart hrd bS5' bE5';have hnl:(nextF mm pc).length=n9:=by have:=hrd.1;simpa[ints]using this
       have Hnn:=eh (Hnx.out pc hlt);generalize nextF mm pc=nx at*;subst hnl;clear bX4 bS4 bE4 bD4 bM4 hb4 K4 z0 z1 z2 z3 hb89 hb89' hrd;go_wp2;go_loopw [99] (fun jv wr=>∃(j:Nat) (sk:List ByteArray) (ek:List Bool),j≤nx.length∧jv=.int .i64 j∧Hid (flowTo mm.code.length b (nx.drop j) sk ek=some (st2,se2))∧sk.length=mm.code.length∧ek.length=mm.code.length∧Blk wr gs 9 ⟨sk.map Value.string⟩∧Blk wr ge 4 ⟨ek.map Value.bool⟩∧Hid (KB (fun b=>b≠gs∧b≠ge∧b<w9.heap.size) w9 wr)∧Below w.heap.size w wr) (fun jv _=>nx.length-(intOf jv).toNat)
       case atStart=>exact⟨0,s'.stacks,s'.seen,Nat.zero_le _,rfl,Hfl,l1,l2,bS5',bE5',eh (KB.refl _ _),hb5'⟩
       case round=>
        clear bS5' bE5' hb5';obtain⟨j,sk,ek,hj,rfl,HF,lk1,lk2,bS,bE,K6,hb⟩:=hrel;have bX:=bX5'.kb K6.out ⟨Ne.symm n2,Ne.symm n3,bX5'.lt⟩;have bM:=bM5'.kb K6.out ⟨by omega,by omega,bM5'.lt⟩;have x0:=bX.at0;have x1:=bX.at1;have ym:=bM.at3;have lX:=bX.lt;have lE:=bE.lt
        by_cases hjl:j<nx.length
        ·have j0:(0:Int)≤j:=by omega
         have j1:(j:Int)<nx.length:=by omega
         obtain⟨v,hv⟩:∃v,nx[j]? =some v:=⟨_,List.getElem?_eq_getElem hjl⟩;have hv0:=Hnn.out v (List.mem_of_getElem? hv);have hF:=HF.out;rw[List.drop_eq_getElem_cons hjl]at hF;have hve:nx[j]=v:=by rw[List.getElem?_eq_getElem hjl]at hv;exact Option.some.inj hv
         rw[hve]at hF;unfold flowTo at hF
         by_cases hvn:(mm.code.length:Int)≤v
         ·rw[if_pos hvn]at hF;cases hF
         ·rw[if_neg hvn]at hF;obtain⟨q,rfl⟩:∃q:Nat,v=q:=⟨v.toNat,by omega⟩;simp only[Int.toNat_natCast]at hF;obtain⟨br,orr,hA2,hbr,y0⟩:=uX ((hrow.keep (K6.out.kept.sub (fun b h=>h))).rd (B:=w9.heap.size) (fun b h=>h.2.2)) (k:=j) hjl;subst hA2;have hqv:nx[j]?.getD 0=(q:Int):=by rw[hv];rfl
          rw[hqv]at y0;have q0:(0:Int)≤q:=by omega
          have q1:(q:Int)<mm.code.length:=by omega
          have ye:=bls_cell bE (show q<ek.length by omega);have yk:=strs_cell bS (show q<sk.length by omega);have fe:=bE.frozen q;have fs:=bS.frozen q;generalize hek:ek.getD q false=eq at*;have HF2:=eh hF;clear hek hqv hv hve hF hvn hrow;cases eq with
          |false=>
           have HF3:=eh (show flowTo mm.code.length b (nx.drop (j+1)) (sk.set q b) (ek.set q true)=some (st2,se2) by have:=HF2.out;rw[if_pos rfl]at this;exact this);clear HF2;generalize sk.getD q ⟨#[]⟩=sq at yk;go_upto_region 20 with(fail);refine uE (S:=fun W=>W.cell? ⟨gx,1,none⟩=some (.slice (some ⟨ge,0,none⟩) mm.code.length mm.code.length)∧W.cell? ⟨gx,0,none⟩=some (.slice (some ⟨gs,0,none⟩) mm.code.length mm.code.length)) (fun j=> !(j==10)) (by kernel_rfl) ⟨x1,x0⟩ (fun HS=>?_);refine uB 0 119 rfl HS (.inl ⟨rfl,fun W hW=>by obtain⟨hW1,hW2⟩:=hW;go_simp;rfl⟩) ?_;simp only[pS];refine uB 1 120 rfl HS (.inl ⟨rfl,fun W hW=>by obtain⟨hW1,hW2⟩:=hW;go_simp;rfl⟩) ?_;simp only[pS];refine uB 2 121 rfl HS (.inl ⟨rfl,fun W hW=>by obtain⟨hW1,hW2⟩:=hW;go_simp;rfl⟩) ?_;simp only[pS];refine uB 3 122 rfl HS (.inl ⟨rfl,fun W hW=>by obtain⟨hW1,hW2⟩:=hW;go_simp;rfl⟩) ?_;simp only[pS];refine uB 4 123 rfl HS (.inl ⟨rfl,fun W hW=>by obtain⟨hW1,hW2⟩:=hW;go_simp;rfl⟩) ?_;simp only[pS];refine uB 5 124 rfl HS (.inl ⟨rfl,fun W hW=>by obtain⟨hW1,hW2⟩:=hW;go_simp;rfl⟩) ?_;simp only[pS];refine uB 6 125 rfl HS (.inl ⟨rfl,fun W hW=>by obtain⟨hW1,hW2⟩:=hW;go_simp;rfl⟩) ?_;simp only[pS];refine uB 7 126 rfl HS (.inl ⟨rfl,fun W hW=>by obtain⟨hW1,hW2⟩:=hW;go_simp;rfl⟩) ?_;simp only[pS];refine uN 8 rfl (fun K HK=>?_);clear HS;go_simp;have bX7:=bX.far (p:=⟨ge,q,none⟩) (Ne.symm n3) (.bool true);have HS7:(wr.setCell ⟨ge,q,none⟩ (.bool true)).cell? ⟨gx,1,none⟩=some (.slice (some ⟨ge,0,none⟩) mm.code.length mm.code.length)∧(wr.setCell ⟨ge,q,none⟩ (.bool true)).cell? ⟨gx,0,none⟩=some (.slice (some ⟨gs,0,none⟩) mm.code.length mm.code.length):=⟨bX7.at1,bX7.at0⟩;refine HK.out _ _ (fun _=>HS7) ?_;clear HK;try simp only[pS]
           refine uB 9 127 rfl HS7 (.inl ⟨rfl,fun W hW=>by obtain⟨hW1,hW2⟩:=hW;go_simp;rfl⟩) ?_;simp only[pS];refine uN 10 rfl (fun K HK=>?_);clear HS7;have bE7:=bls_set bE q true;have bS7:=bS.far (p:=⟨ge,q,none⟩) n1 (.bool true);have bS8:=strs_set bS7 q b;have bE8:=bE7.far (p:=⟨gs,q,none⟩) (Ne.symm n1) (.string b);have hb8:=(hb.setCell (p:=⟨ge,q,none⟩) (by show w.heap.size≤ge;omega) (.bool true)).setCell (p:=⟨gs,q,none⟩) (by show w.heap.size≤gs;omega) (.string b);have K8:=eh ((K6.out.set (p:=⟨ge,q,none⟩) (by simp) (.bool true)).set (p:=⟨gs,q,none⟩) (by simp) (.string b));clear fs;have fs:=bS7.frozen q;have yk7:=strs_cell bS7 (show q<sk.length by omega);generalize sk.getD q ⟨#[]⟩=sq7 at yk7;have ls7:=bS7.lt;clear yk x0 x1 bX7 bE7 bS7 bS bE hb K6;generalize wr.setCell ⟨ge,q,none⟩ (.bool true)=wr2 at*;go_simp;refine HK.out _ _ (fun h=>by cases h) ?_;clear HK;refine uD (by kernel_rfl) ?_ _;go_wp2;go_roundw
           case rel=>exact⟨j+1,_,_,by omega,by go_num,HF3,by simpa using lk1,by simpa using lk2,bS8,bE8,K8,hb8.drew⟩
           case measure=>simp[intOf];omega
          |true=>
           have h2:=HF2.out;rw[if_neg (by simp)]at h2
           by_cases hsb:sk.getD q ⟨#[]⟩=b
           ·rw[if_pos hsb]at h2;have HF3:=eh h2;rw[hsb]at yk;clear HF2 h2 hsb;go_wp2;go_roundw
            case rel=>exact⟨j+1,sk,ek,by omega,by go_num,HF3,lk1,lk2,bS,bE,K6,hb⟩
            case measure=>simp[intOf];omega
           ·rw[if_neg hsb]at h2;cases h2
        ·have e:j=nx.length:=by omega
         have hF:=HF.out;rw[e,List.drop_length]at hF;simp only[flowTo,Option.some.injEq,Prod.mk.injEq]at hF;have HF3:=eh hF;have hge:¬(j:Int)<nx.length:=by omega
         clear e hjl hF;go_wp2;have bD:=bD5'.kb K6.out ⟨Ne.symm n4,Ne.symm n5,bD5'.lt⟩;have K7:=eh (K5.out.trans (K6.out.sub (fun b h=>⟨by omega,by omega,by have:=bX5'.lt;omega⟩)));obtain⟨rfl,rfl⟩:=HF3.out;have e2:=Hs2.out;subst e2;go_roundg f'
         case measure=>have:=Hgk.out;omega
         case rel=>exact⟨_,HR2,HI2,bX,bS,bE,bD,K7,hb⟩
    · --all done
     have e:pc=mm.code.length:=by omega
     have hpick:=pick_at (s:=s') (n:=mm.code.length) (pc:=pc) (by omega) Hpc.out (fun h=>absurd h hlt);have HE:=eh (show s'=s by
      cases f:gk with
      |zero=>have:=HR.out;rw[f]at this;cases this
      |succ f'=>
       have:=HR.out;rw[f]at this;unfold vrun at this;rw[if_pos (by rw[hpick];exact e)]at this;exact Option.some.inj this)
     have bR:=bR5.kb K.out (by omega);have r0:=bR.at0;have r1:=bR.at1;have r2:=bR.at2;have fr0:=bR.frozen 0;have fr1:=bR.frozen 1;have fr2:=bR.frozen 2;have lR:=bR.lt;clear hpick hlt;subst e;have hge:¬(mm.code.length:Int)<mm.code.length:=by omega
     go_wp2;have e2:=HE.out;subst e2;have e3:Blk (((wr.setCell ⟨w.heap.size+1+1,0,none⟩ (.slice (some ⟨gs,0,none⟩) mm.code.length mm.code.length)).setCell ⟨w.heap.size+1+1,1,none⟩ (.slice (some ⟨ge,0,none⟩) mm.code.length mm.code.length)).setCell ⟨w.heap.size+1+1,2,none⟩ (.int .i64 s'.most)) (w.heap.size+1+1) 100 #[.slice (some ⟨gs,0,none⟩) mm.code.length mm.code.length,.slice (some ⟨ge,0,none⟩) mm.code.length mm.code.length,.int .i64 s'.most]:=by simpa using((bR.set_ 0 (.slice (some ⟨gs,0,none⟩) mm.code.length mm.code.length)).set_ 1 (.slice (some ⟨ge,0,none⟩) mm.code.length mm.code.length)).set_ 2 (.int .i64 s'.most)
     have q0:=e3.at0;have q1:=e3.at1;have q2:=e3.at2;have hR:∀{g:Nat} {T:TypeId} {cs:Array Value},Blk wr g T cs→g≠w.heap.size+1+1→Blk (((wr.setCell ⟨w.heap.size+1+1,0,none⟩ (.slice (some ⟨gs,0,none⟩) mm.code.length mm.code.length)).setCell ⟨w.heap.size+1+1,1,none⟩ (.slice (some ⟨ge,0,none⟩) mm.code.length mm.code.length)).setCell ⟨w.heap.size+1+1,2,none⟩ (.int .i64 s'.most)) g T cs:=fun h1 h2=>((h1.far (p:=⟨w.heap.size+1+1,0,none⟩) h2 _).far (p:=⟨w.heap.size+1+1,1,none⟩) h2 _).far (p:=⟨w.heap.size+1+1,2,none⟩) h2 _
     have bS9:=hR bS (by omega);have bE9:=hR bE (by omega);have hb9:=((hb.setCell (p:=⟨w.heap.size+1+1,0,none⟩) (by show w.heap.size≤w.heap.size+1+1;omega) (.slice (some ⟨gs,0,none⟩) mm.code.length mm.code.length)).setCell (p:=⟨w.heap.size+1+1,1,none⟩) (by show w.heap.size≤w.heap.size+1+1;omega) (.slice (some ⟨ge,0,none⟩) mm.code.length mm.code.length)).setCell (p:=⟨w.heap.size+1+1,2,none⟩) (by show w.heap.size≤w.heap.size+1+1;omega) (.int .i64 s'.most);clear hR;refine bodyPost_ret (v:=.tuple #[.agg #[.slice (some ⟨gs,0,none⟩) mm.code.length mm.code.length,.slice (some ⟨ge,0,none⟩) mm.code.length mm.code.length,.int .i64 s'.most],.int .i64 0,.nilIface]) (by simp[results,Tryz.results18,go_sem,q0,q1,q2]) rfl ?_;exact HP.out _ _ _ bS9 bE9 (by omega) (by omega) hb9
end Go.Proofs.YtgbgbmdiomhfiaaGreatDoor