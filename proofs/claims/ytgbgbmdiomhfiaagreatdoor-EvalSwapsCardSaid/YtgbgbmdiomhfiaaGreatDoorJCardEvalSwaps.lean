/-
 EvalSwaps: what the walk gives, for every argument that can be read, as the given statement has it: the law answers true and its arguments read as they did.
-/
import Derived.Test.YtgbgbmdiomhfiaaGreatDoorCards
import Derived.Test.YtgbgbmdiomhfiaaGreatDoorTie
import Derived.Test.YtgbgbmdiomhfiaaGreatDoorJEv3
import Derived.Test.YtgbgbmdiomhfiaaGreatDoorJMk
import Derived.Test.YtgbgbmdiomhfiaaGreatDoorJLightB
import Derived.Test.YtgbgbmdiomhfiaaGreatDoorJEs1
set_option linter.unusedSimpArgs false
set_option linter.unusedVariables false
set_option maxHeartbeats 4000000
set_option maxRecDepth 100000
namespace Go.Proofs.YtgbgbmdiomhfiaaGreatDoor.evalSwaps
open Go.ChangeShapes Go.WideShapes Go.ChangeAt Go.RowKit
theorem laid_is:LaidIs Rows.evalSwapsRow.laid [1,2,3,4,8,9,10,11,12,13]:=(.skip (.skip (.sent (by decide) rfl ⟨_,rfl⟩ (.sent (by decide) rfl ⟨_,rfl⟩ (.sent (by decide) rfl ⟨_,rfl⟩ (.sent (by decide) rfl ⟨_,rfl⟩ (.sent (by decide) rfl ⟨_,rfl⟩ (.sent (by decide) rfl ⟨_,rfl⟩ (.sent (by decide) rfl ⟨_,rfl⟩ (.sent (by decide) rfl ⟨_,rfl⟩ (.sent (by decide) rfl ⟨_,rfl⟩ (.sent (by decide) rfl ⟨_,rfl⟩ (.skip .nil)))))))))))))
theorem door_met(os:Os):laidMetH Tryz.prog Rows.evalSwapsRow.laid (((World.laidAll Tryz.prog os Rows.evalSwapsRow.laid).forCall (fun _ _=>0) ⟨#[],#[Value.int .i64 0,Value.int .i64 0,Value.int .i64 0,Value.int .i64 0],[]⟩).memory):=by
 rw[MakeChecks.laidMetH_plain _ _ _ (by kernel_rfl)];exact laidMet_laidAll _ (by kernel_rfl) (by kernel_rfl)
theorem reads(os:Os){H:Type}(enc:TypeId×Value→H):∃places,DataW.whole enc Tryz.prog (((World.laidAll Tryz.prog os Rows.evalSwapsRow.laid).forCall (fun _ _=>0) ⟨#[],#[Value.int .i64 0,Value.int .i64 0,Value.int .i64 0,Value.int .i64 0],[]⟩).memory) Tryz.f3.params.toList Rows.evalSwapsSpec.vars false [Value.int .i64 0,Value.int .i64 0,Value.int .i64 0,Value.int .i64 0] 8=some ([.lit (.int .i64 0),.lit (.int .i64 0),.lit (.int .i64 0),.lit (.int .i64 0)],[],places):=
 ⟨[],by kernel_rfl⟩
theorem contract(H:Type)(enc:TypeId×Value→H)(W:World)(base:Nat)(args:Array Value)(ds gs:List (DataW H))(before:List MemPlace)
 (hval:∀(j:Nat) t v,Tryz.f3.params[j]? =some t→args[j]? =some v→Value.okWide Tryz.prog W .any base t v)
 (hW:DataW.Whole enc Tryz.prog Tryz.f3.params.toList Rows.evalSwapsSpec.vars false W args.toList ds gs before)(hL:laidMetH Tryz.prog Rows.evalSwapsRow.laid W):
 Calls Tryz.prog 3 args W fun e W'=>∃v,e=.returned v∧Rows.evalSwapsSpec.post enc Tryz.prog Tryz.f3 false true false false W args v W':=by
 have hW':=hW;obtain⟨p,q,hA0,hV,rfl,hfz,hnd⟩:=hW;have hA:DataW.TrodAll enc Tryz.prog W 0 (fun _=>true) true Tryz.f3.params.toList args.toList ds p:=hA0;rw[Tryz.params3]at hA hval;obtain⟨v0,vs0,d0,ds0,p0,q0,hargs,rfl,rfl,h0,r0⟩:=trodAll_cons hA;obtain⟨v1,vs1,d1,ds1,p1,q1,rfl,rfl,rfl,h1,r1⟩:=trodAll_cons r0;obtain⟨v2,vs2,d2,ds2,p2,q2,rfl,rfl,rfl,h2,r2⟩:=trodAll_cons r1;obtain⟨v3,vs3,d3,ds3,p3,q3,rfl,rfl,rfl,h3,r3⟩:=trodAll_cons r2;obtain⟨rfl,rfl,rfl⟩:=trodAll_nil r3;obtain rfl:args=#[v0,v1,v2,v3]:=by cases args;simp_all
 obtain⟨rfl,rfl⟩:=trodVars_none hV;clear hA0;obtain⟨a,hs⟩:=sent_of_laid hL (by kernel_rfl) laid_is;obtain⟨x,rfl,rfl,rfl,_⟩:=open_int Tryz.underlying3 (hval 0 3 v0 rfl rfl) h0;obtain⟨y,rfl,rfl,rfl,_⟩:=open_int Tryz.underlying3 (hval 1 3 v1 rfl rfl) h1;obtain⟨u,rfl,rfl,rfl,_⟩:=open_int Tryz.underlying2 (hval 2 2 v2 rfl rfl) h2;obtain⟨v,rfl,rfl,rfl,_⟩:=open_int Tryz.underlying2 (hval 3 2 v3 rfl rfl) h3;have ht:=tab_of_laid (k:=.u8) (zs:=Lib.deBruijn64tab.map Int.ofNat) (g:=13) (t:=302) (e:=5) (n:=64) hL (by kernel_rfl) (by kernel_rfl) (by kernel_rfl) (by kernel_rfl) (by kernel_rfl) (by kernel_rfl) (by kernel_rfl) 0 rfl;have walk:Calls Tryz.prog 3 #[.int .i64 x,.int .i64 y,.int .i64 u,.int .i64 v] W fun e W'=>e=.returned (.bool true)∧Below W.heap.size W W':=evalSwaps_walk a _ W hs (Nat.le_refl _) (tz_of ht) x y u v
 refine walk.mono fun e W' ⟨he,hb⟩=>?_
 subst he;exact⟨_,rfl,law_post laid_out rfl rfl Tryz.underlying4 rfl rfl rfl (by rw[Tryz.params3];intro t ht;simp at ht;rcases ht with rfl|rfl<;>exact⟨by kernel_rfl,of_decide_eq_true (by kernel_rfl)⟩) hW' hb⟩
theorem lifted(os:Os)(started:os.Started)(H:Type)(enc:TypeId×Value→H)(F:Stop.Interp):
 ReturnsInHanded {} Tryz.checked os 3 .any ((OpenSpec.ofChange Rows.evalSwapsSpec).preRow enc Tryz.prog Tryz.f3 Rows.evalSwapsRow.domain false Rows.evalSwapsRow.laid) (((OpenSpec.ofChange Rows.evalSwapsSpec).at F).post enc Tryz.prog Tryz.f3 false true false false):=by
 obtain⟨places,hx⟩:=reads os enc;refine returnsInHanded_of_row (C:=Tryz.checked) (s:=OpenSpec.ofChange Rows.evalSwapsSpec) own_knob started (by kernel_rfl) Tryz.func3
  (witness_row_atRef (enc:=enc) (C:=Tryz.checked) false (World.laidAll Tryz.prog os Rows.evalSwapsRow.laid) #[Value.int .i64 0,Value.int .i64 0,Value.int .i64 0,Value.int .i64 0] (World.laidAll_os _ _ _) (by kernel_rfl) (by kernel_rfl) (by kernel_rfl)
   (OpenSpec.preRow_of_cond 8 hx (by kernel_rfl) (fun k hk=>by cases hk) (by kernel_rfl) (door_met os))) ?_
 intro W base args ds gs before hval hW _ _ _ hL _ _;exact contract H enc W base args ds gs before hval hW hL
theorem closed:joinedFacts Tryz.pinned.checked.prog 3 Tryz.f3 (OpenSpec.ofChange Rows.evalSwapsSpec).bare Rows.evalSwapsRow=true:=by
 unfold joinedFacts;simp only[Bool.and_eq_true]
 repeat' (refine And.intro ?_ ?_)
 all_goals(as_aux_lemma=>kernel_rfl)
theorem said:Rows.EvalSwapsSaid:=
 OpenClaim.holds_of_cond 3 Tryz.f3 rfl rfl rfl rfl rfl rfl rfl ⟨rfl,rfl,rfl,rfl,rfl⟩ rfl rfl rfl rfl rfl (by kernel_rfl) Tryz.func3 closed
  (of_decide_eq_true (by kernel_rfl)) (by unfold Func.isWrapper;first|(rw[if_pos (by decide+kernel)];kernel_rfl)|(rw[if_neg (by decide+kernel)];exact⟨rfl,rfl⟩))
  (fun os started H enc _ F=>by rw[OpenClaim.pre_eq_preRow];exact lifted os started H enc F)
theorem plain(f:FuncId)(fn:Func)(hf:Tryz.pinned.checked.prog.funcNamed "overdrive/overdrivelaw17.EvalSwaps" =some f)(hfn:Tryz.pinned.checked.prog.funcs[f]? =some fn):
 false=Tryz.pinned.checked.prog.looks []∧∀(j:Nat) t,fn.params[j]? =some t→Tryz.pinned.checked.prog.wantsStandIn t=false:=by
 obtain rfl:f=3:=Option.some.inj ((show Tryz.prog.funcNamed "overdrive/overdrivelaw17.EvalSwaps" =some 3 by kernel_rfl).symm.trans hf) |>.symm
 obtain rfl:fn=Tryz.f3:=(Option.some.inj (Tryz.func3.symm.trans hfn)).symm;refine⟨by kernel_rfl,fun j t ht=>?_⟩;rw[Tryz.params3]at ht;have hm:t=3∨t=2:=by simpa[or_comm,or_left_comm,or_assoc]using Array.mem_of_getElem? ht
 rcases hm with rfl|rfl
 ·exact(show Tryz.prog.wantsStandIn 3=false by kernel_rfl)
 ·exact(show Tryz.prog.wantsStandIn 2=false by kernel_rfl)
theorem card:Rows.EvalSwapsCardSaid:=
 Claim7.holds_tied_plain_at .later [] _ _ _ _ said (fun _ h=>by cases h) (by kernel_rfl) (fun _ h=>by cases h) evalSwaps_row_tie rfl ⟨rfl,rfl⟩ (by kernel_rfl) rfl plain (by kernel_rfl)
end Go.Proofs.YtgbgbmdiomhfiaaGreatDoor.evalSwaps