/-
 Rv1.
-/
import Derived.IntWalk
import Derived.Test.YtjjmpfmhggcjiaaGreatDoorJVr1
import Derived.Test.YtjjmpfmhggcjiaaGreatDoorJPgEff3
import Derived.Test.YtjjmpfmhggcjiaaGreatDoorJSsO6
set_option linter.unusedSimpArgs false
set_option linter.unusedVariables false
namespace Go.Proofs.YtjjmpfmhggcjiaaGreatDoor
open Go.RowKit Go.Maps
def RaftPost (w : World) (r : Option ByteArray) (e : Ending) (w' : World) : Prop := ∃ c : Int, e = .returned (.tuple #[.string (r.getD sE), .int .i64 c]) ∧ (r.isSome = true ↔ c = 0) ∧ Below w.heap.size w w'
set_option maxRecDepth 100000 in
set_option maxHeartbeats 8000000 in
theorem rafter_any (Ac Am : Option Addr) (cc cm : Nat) (p : Prg) (x : Ins) (m : Nat) (s : ByteArray) (w : World) (hr : RdP w w.heap.size Ac Am p) (hp : POk p) (hm : m < p.methods.length) (mine : Mth) (hmine : p.methods.getD m default = mine) (hk : mine.pa.size + mine.lo.size ≤ 1000)
 (hv : insBad p.classes p.methods.length (mine.pa.size + mine.lo.size) mine.code.length x = 0) (hs : s.size ≤ 12) (hf1 : (effF p mine x).1.size ≤ 1000) (hf2 : (effF p mine x).2.1.size ≤ 1000) :
 Calls Tryz.prog 113 #[pv Ac cc Am cm p, .int .i64 m, iv x, .string s] w (RaftPost w (aftF p mine x s)) := by
 have HPs := Lib.hid (fun b w' (h1 : aftF p mine x s = some b) (h2 : Below w.heap.size w w') => (show RaftPost w (aftF p mine x s) (.returned (.tuple #[.string b, .int .i64 0])) w' from by rw [h1]; exact ⟨0, rfl, by simp, h2⟩))
 have HPn := Lib.hid (fun c w' (h1 : aftF p mine x s = none) (hc : c ≠ 0) (h2 : Below w.heap.size w w') => (show RaftPost w (aftF p mine x s) (.returned (.tuple #[.string ⟨#[]⟩, .int .i64 c])) w' from by rw [h1]; exact ⟨c, rfl, by simp [hc], h2⟩))
 have hb2 := ((Below.refl w.heap.size w).alloc (Nat.le_refl _) (.cells #[.slice Ac p.classes.length cc, .slice Am p.methods.length cm] 25)).alloc (by simp) (.cells #[.int .i64 x.op, .int .i64 x.a, .int .i64 x.b, .int .i64 x.n] 118)
 have hE := fun W (hb : Below w.heap.size w W) => reffect_any Ac Am cc cm p x m W ((hr.below hb (Nat.le_refl _)).more hb.size) hp hm mine hmine hk hv
 have HE := Lib.hid hE
 have bP := (Blk.new w 25 #[.slice Ac p.classes.length cc, .slice Am p.methods.length cm]).alloc (.cells #[.int .i64 x.op, .int .i64 x.a, .int .i64 x.b, .int .i64 x.n] 118)
 have bX := Blk.newAt (w := w.alloc (.cells #[.slice Ac p.classes.length cc, .slice Am p.methods.length cm] 25)) (g := w.heap.size + 1) (by simp) 118 #[.int .i64 x.op, .int .i64 x.a, .int .i64 x.b, .int .i64 x.n]
 obtain ⟨op, xa, xb, xn⟩ := x
 simp only at hb2 bP bX
 have p0 := bP.at0
 have p1 := bP.at1
 have x0 := bX.at0
 have x1 := bX.at1
 have x2 := bX.at2
 have x3 := bX.at3
 have lP := bP.lt
 have lX := bX.lt
 have hl1 : w.heap.size ≤ w.heap.size := Nat.le_refl _
 have Hf1 := Lib.hid hf1
 have Hf2 := Lib.hid hf2
 generalize hpost : RaftPost w (aftF p mine ⟨op, xa, xb, xn⟩ s) = Post at *
 clear hpost hE hr hp hm hmine hk hv hf1 hf2 hl1
 go_enter Tryz.func113, Tryz.ntmps113
 go_upto_region 1 with (fail)
 generalize (w.alloc (.cells #[.slice Ac p.classes.length cc, .slice Am p.methods.length cm] 25)).alloc (.cells #[.int .i64 op, .int .i64 xa, .int .i64 xb, .int .i64 xn] 118) = w2 at *
 by_cases h6 : op = 6
 · subst h6
   by_cases g1 : s.size < 1
   · have HN := Lib.hid (show aftF p mine ⟨6, xa, xb, xn⟩ s = none by unfold aftF; rw [if_pos rfl, if_pos g1])
     have k1 : decide ((s.size : Int) < 1) = true := by simp; omega
     clear g1
     go_wp2
     exact HPn.out 108 _ HN.out (by decide) hb2
   · have HS := Lib.hid (show aftF p mine ⟨6, xa, xb, xn⟩ s = some (s.extract 0 (s.size - 1)) by unfold aftF; rw [if_pos rfl, if_neg g1])
     have k1 : decide ((s.size : Int) < 1) = false := by simp; omega
     have k2 : (s.size : Int) - 1 = ((s.size - 1 : Nat) : Int) := by omega
     clear g1
     go_wp2
     exact HPs.out _ _ HS.out hb2
 · by_cases h5 : op = 5
   · subst h5
     by_cases g1 : s.size < 1
     · have HN := Lib.hid (show aftF p mine ⟨5, xa, xb, xn⟩ s = none by unfold aftF; rw [if_neg (show ¬ (5 : Int) = 6 by decide), if_pos rfl, if_pos g1])
       have k1 : decide ((s.size : Int) < 1) = true := by simp; omega
       clear g1 h6
       go_wp2
       exact HPn.out 108 _ HN.out (by decide) hb2
     · have HC0 := (show aftF p mine ⟨5, xa, xb, xn⟩ s = chkF 5 (s ++ s.extract (s.size - 1) s.size) by unfold aftF; rw [if_neg (show ¬ (5 : Int) = 6 by decide), if_pos rfl, if_neg g1])
       have k1 : decide ((s.size : Int) < 1) = false := by simp; omega
       have k2 : (s.size : Int) - 1 = ((s.size - 1 : Nat) : Int) := by omega
       have hq : (s.extract (s.size - 1) s.size).size = 1 := by rw [ByteArray.size_extract]; omega
       have o1 : ¬ 9223372036854775807 < s.size + (s.extract (s.size - 1) s.size).size := by omega
       have o2 : ¬ 9223372036854775807 < s.size + (s.size - (s.size - 1)) := by omega
       clear hq h6 g1
       go_upto_region 20 with (fail)
       generalize s ++ s.extract (s.size - 1) s.size = b at *
       have Hc := Lib.hid HC0
       clear HC0 o1 o2 k1 k2
       by_cases h12 : 12 < b.size
       · have HN := Lib.hid (Hc.out.trans (if_pos (.inl h12)))
         have k12 : decide ((12 : Int) < b.size) = true := by simp; omega
         clear h12
         go_wp2
         exact HPn.out 108 _ HN.out (by decide) hb2
       · have k12 : decide ((12 : Int) < b.size) = false := by simp; omega
         have HS := Lib.hid (Hc.out.trans (if_neg (fun h => h.elim h12 (fun h => absurd h.1 (by decide)))))
         clear h12
         go_wp2
         exact HPs.out _ _ HS.out hb2
   · by_cases h7 : op = 7
     · subst h7
       by_cases g1 : s.size < 2
       · have HN := Lib.hid (show aftF p mine ⟨7, xa, xb, xn⟩ s = none by unfold aftF; rw [if_neg (show ¬ (7 : Int) = 6 by decide), if_neg (show ¬ (7 : Int) = 5 by decide), if_pos rfl, if_pos g1])
         have k1 : decide ((s.size : Int) < 2) = true := by simp; omega
         clear g1 h6 h5
         go_wp2
         exact HPn.out 108 _ HN.out (by decide) hb2
       · have HC0 := (show aftF p mine ⟨7, xa, xb, xn⟩ s = chkF 7 (s.extract 0 (s.size - 2) ++ s.extract (s.size - 1) s.size ++ s.extract (s.size - 2) (s.size - 1)) by unfold aftF; rw [if_neg (show ¬ (7 : Int) = 6 by decide), if_neg (show ¬ (7 : Int) = 5 by decide), if_pos rfl, if_neg g1])
         have k1 : decide ((s.size : Int) < 2) = false := by simp; omega
         have k2 : (s.size : Int) - 1 = ((s.size - 1 : Nat) : Int) := by omega
         have k3 : (s.size : Int) - 2 = ((s.size - 2 : Nat) : Int) := by omega
         have j1 : (0 : Int) ≤ ((s.size - 2 : Nat) : Int) := by omega
         have j2 : ((s.size - 2 : Nat) : Int) ≤ ((s.size - 1 : Nat) : Int) := by omega
         have j3 : ((s.size - 1 : Nat) : Int) ≤ (s.size : Int) := by omega
         have hq1 : (s.extract 0 (s.size - 2)).size = s.size - 2 := by rw [ByteArray.size_extract]; omega
         have hq2 : (s.extract (s.size - 1) s.size).size = 1 := by rw [ByteArray.size_extract]; omega
         have hq3 : (s.extract (s.size - 2) (s.size - 1)).size = 1 := by rw [ByteArray.size_extract]; omega
         have o1 : ¬ 9223372036854775807 < (s.extract 0 (s.size - 2)).size + (s.extract (s.size - 1) s.size).size := by omega
         have o2 : ¬ 9223372036854775807 < (s.extract 0 (s.size - 2) ++ s.extract (s.size - 1) s.size).size + (s.extract (s.size - 2) (s.size - 1)).size := by rw [ByteArray.size_append]; omega
         clear hq1 hq2 hq3 h6 h5 g1
         have z1 : IntKind.i64.wrap ((s.size : Int) - 1) = ((s.size - 1 : Nat) : Int) := (IntWalk.i64_in _ (by omega)).trans k2
         have z2 : IntKind.i64.wrap ((s.size : Int) - 2) = ((s.size - 2 : Nat) : Int) := (IntWalk.i64_in _ (by omega)).trans k3
         go_upto_region 19 with (fail)
         go_quiet (fail)
         rename Nat => q
         go_upto_region 20 with (fail)
         generalize s.extract 0 (s.size - 2) ++ s.extract (s.size - 1) s.size ++ s.extract (s.size - 2) (s.size - 1) = b at *
         have Hc := Lib.hid HC0
         clear HC0 o1 o2 k1 k2 k3 j1 j2 j3 z1 z2
         by_cases h12 : 12 < b.size
         · have HN := Lib.hid (Hc.out.trans (if_pos (.inl h12)))
           have k12 : decide ((12 : Int) < b.size) = true := by simp; omega
           clear h12
           go_wp2
           exact HPn.out 108 _ HN.out (by decide) (below_drewN hb2 _)
         · have k12 : decide ((12 : Int) < b.size) = false := by simp; omega
           have HS := Lib.hid (Hc.out.trans (if_neg (fun h => h.elim h12 (fun h => absurd h.1 (by decide)))))
           clear h12
           go_wp2
           exact HPs.out _ _ HS.out (below_drewN hb2 _)
     · have e5 : (op == 5) = false := by simpa using h5
       have e6 : (op == 6) = false := by simpa using h6
       have e7 : (op == 7) = false := by simpa using h7
       have HD := Lib.hid (show aftF p mine ⟨op, xa, xb, xn⟩ s = if s.size < (effF p mine ⟨op, xa, xb, xn⟩).1.size then none else if s.extract (s.size - (effF p mine ⟨op, xa, xb, xn⟩).1.size) s.size ≠ (effF p mine ⟨op, xa, xb, xn⟩).1 then none else chkF op (s.extract 0 (s.size - (effF p mine ⟨op, xa, xb, xn⟩).1.size) ++ (effF p mine ⟨op, xa, xb, xn⟩).2.1) by unfold aftF; rw [if_neg h6, if_neg h5, if_neg h7])
       clear h5 h6 h7
       go_wp2_with fail
       refine (HE.out _ hb2).mono ?_
       rintro e w3 ⟨rfl, hb23⟩
       have hb3 := hb2.trans (hb23.mono hb2.size)
       have bX3 := bX.below hb23 lX
       clear x0 x1 x2 x3 p0 p1 bX bP lP lX hb2 hb23
       have x0 := bX3.at0
       have lX := bX3.lt
       clear bX3
       have f1 := Hf1.out
       have f2 := Hf2.out
       generalize effF p mine ⟨op, xa, xb, xn⟩ = ef at *
       obtain ⟨po, pu, eb⟩ := ef
       simp only at f1 f2 HD ⊢
       by_cases g1 : s.size < po.size
       · have HN := Lib.hid (HD.out.trans (if_pos g1))
         have k1 : decide (s.size < po.size) = true := by simp; omega
         clear HD
         go_wp2
         exact HPn.out 108 _ HN.out (by decide) hb3
       · have k1 : decide (s.size < po.size) = false := by simp; omega
         have k2 : (s.size : Int) - po.size = ((s.size - po.size : Nat) : Int) := by omega
         have j1 : (0 : Int) ≤ ((s.size - po.size : Nat) : Int) := by omega
         have j2 : ((s.size - po.size : Nat) : Int) ≤ (s.size : Int) := by omega
         by_cases g2 : s.extract (s.size - po.size) s.size = po
         · have HC0 := HD.out.trans ((if_neg g1).trans (if_neg (fun h => h g2)))
           have gs := (str_eqb2 (s.extract (s.size - po.size) s.size) po).trans (decide_eq_true g2)
           have hq1 : (s.extract 0 (s.size - po.size)).size = s.size - po.size := by rw [ByteArray.size_extract]; omega
           have o1 : ¬ 9223372036854775807 < (s.extract 0 (s.size - po.size)).size + pu.size := by omega
           have o2 : ¬ 9223372036854775807 < s.size - po.size + pu.size := by omega
           clear hq1 g2 HD
           go_upto_region 20 with (fail)
           generalize s.extract 0 (s.size - po.size) ++ pu = b at *
           have Hc := Lib.hid HC0
           clear HC0 o1 o2 k1 k2 j1 j2 gs g1
           by_cases h12 : 12 < b.size
           · have HN := Lib.hid (Hc.out.trans (if_pos (.inl h12)))
             have k12 : decide ((12 : Int) < b.size) = true := by simp; omega
             clear h12
             go_wp2
             exact HPn.out 108 _ HN.out (by decide) hb3
           · have k12 : decide ((12 : Int) < b.size) = false := by simp; omega
             by_cases h33 : op = 33
             · have e33 : (op == 33) = true := by simpa using h33
               by_cases hbe : b.toList = []
               · have kbe : b.toList.isEmpty = true := by simpa using hbe
                 have HS := Lib.hid (Hc.out.trans (if_neg (fun h => h.elim h12 (fun h => h.2 hbe))))
                 clear h12 h33 hbe
                 go_wp2
                 exact HPs.out _ _ HS.out hb3
               · have kbe : b.toList.isEmpty = false := by simpa using hbe
                 have HN := Lib.hid (Hc.out.trans (if_pos (.inr ⟨h33, hbe⟩)))
                 clear h12 h33 hbe
                 go_wp2
                 exact HPn.out 108 _ HN.out (by decide) hb3
             · have e33 : (op == 33) = false := by simpa using h33
               have HS := Lib.hid (Hc.out.trans (if_neg (fun h => h.elim h12 (fun h => h33 h.1))))
               clear h12 h33
               go_wp2
               exact HPs.out _ _ HS.out hb3
         · have HN := Lib.hid (HD.out.trans ((if_neg g1).trans (if_pos g2)))
           have gs := (str_eqb2 (s.extract (s.size - po.size) s.size) po).trans (decide_eq_false g2)
           clear g2 HD
           go_wp2
           exact HPn.out 102 _ HN.out (by decide) hb3
end Go.Proofs.YtjjmpfmhggcjiaaGreatDoor
