/- A part of the proof: texts of ours, joined by a program, each in a section of its own; what each proves, and under what conditions, stands ahead of it. -/
import Derived.Test.YtjllmamblkejjaaGreatDoorK
import Derived.Test.YtjllmamblkejjaaGreatDoorProg
import Derived.Below
import Derived.Deep.Draws
import Derived.Deep.AppendLies
import Derived.Maps.AppendAt
import Derived.OwnWalk
import Derived.Laws.BytesArg
import Derived.Laws.MakeOwn
import Derived.Laws.OwnMore
import Derived.Deep.OwnRows
import Derived.Tactics
import Derived.Lib.ConvBytes
import Derived.Laws.Slices
import Derived.WalkKit
import Derived.KernelRfl
import Derived.RowKit3
import Derived.Deep.LoopGhost
import Derived.Deep.QuietTactic
import Derived.BigQuiet
import Derived.WideLaws
import Derived.Deep.DeepCutAuto
import Derived.Deep.CutBlock
import Derived.Deep.RegionHeld3
import Derived.Laws.Rows
import Derived.Lib.AppendStr
import Derived.ArgAppend
import Derived.Laws.IdiomCopy
import Derived.OrdersHeld
import Derived.Laws.BitsLemmas
import Derived.RowKit

section
namespace Go.Proofs.YtjllmamblkejjaaGreatDoor.PQG
open Go.RowKit Go.Proofs.YtjllmamblkejjaaGreatDoorW.PrintWords Go.Proofs.YtjllmamblkejjaaGreatDoorW.PrintLast Go.Proofs.YtjllmamblkejjaaGreatDoorW.PrintMore
attribute [local go_sem] max2_int min2_int max_two min_two max_three min_three max_four min_four   
set_option linter.unusedVariables false
set_option linter.unusedSimpArgs false
def errW : Option Int → Value
  | none => .nilIface
  | some c => .iface 0 (.int .i64 c)
theorem errW_none : errW none = .nilIface := rfl
theorem errW_some (c : Int) : errW (some c) = .iface 0 (.int .i64 c) := rfl
end Go.Proofs.YtjllmamblkejjaaGreatDoor.PQG
end

section
namespace Go.Proofs.YtjllmamblkejjaaGreatDoor.PQG
open Go.RowKit Go.Proofs.YtjllmamblkejjaaGreatDoorW.PrintWords Go.Proofs.YtjllmamblkejjaaGreatDoorW.PrintLast Go.Proofs.YtjllmamblkejjaaGreatDoorW.PrintMore
attribute [local go_sem] max2_int min2_int max_two min_two max_three min_three max_four min_four   
set_option linter.unusedVariables false
set_option linter.unusedSimpArgs false
mutual
def pidginlaw4_sets.l0 : Nat → List Int → List Int → Int → Int → Option (Bool)
  | 0, _, _, _, _ => none
  | k + 1, x0, x5, x6, x7 => if x7 < x6 then (if 0 ≤ x7 then (if x7 < (x5.length : Int) then (if (rd x5 x7) = 61 then (if x7 = 0 then (if (wrap64 (x7 + 1)) = (x0.length : Int) then (pidginlaw4_sets.j1 k x0 x7 (rd x5 x7) x5 x6 x7 true) else (if 0 ≤ (wrap64 (x7 + 1)) then (if (wrap64 (x7 + 1)) < (x0.length : Int) then (pidginlaw4_sets.j1 k x0 x7 (rd x5 x7) x5 x6 x7 ((rd x0 (wrap64 (x7 + 1))) != 61)) else (none)) else (none))) else (if 0 ≤ (wrap64 (x7 - 1)) then (if (wrap64 (x7 - 1)) < (x0.length : Int) then (if (rd x0 (wrap64 (x7 - 1))) = 61 then (pidginlaw4_sets.j1 k x0 x7 (rd x5 x7) x5 x6 x7 false) else (if (rd x0 (wrap64 (x7 - 1))) = 33 then (pidginlaw4_sets.j1 k x0 x7 (rd x5 x7) x5 x6 x7 false) else (if (rd x0 (wrap64 (x7 - 1))) = 60 then (pidginlaw4_sets.j1 k x0 x7 (rd x5 x7) x5 x6 x7 false) else (if (rd x0 (wrap64 (x7 - 1))) = 62 then (pidginlaw4_sets.j1 k x0 x7 (rd x5 x7) x5 x6 x7 false) else (if (wrap64 (x7 + 1)) = (x0.length : Int) then (pidginlaw4_sets.j1 k x0 x7 (rd x5 x7) x5 x6 x7 true) else (if 0 ≤ (wrap64 (x7 + 1)) then (if (wrap64 (x7 + 1)) < (x0.length : Int) then (pidginlaw4_sets.j1 k x0 x7 (rd x5 x7) x5 x6 x7 ((rd x0 (wrap64 (x7 + 1))) != 61)) else (none)) else (none))))))) else (none)) else (none))) else (pidginlaw4_sets.j1 k x0 x7 (rd x5 x7) x5 x6 x7 false)) else (none)) else (none)) else (some false)
def pidginlaw4_sets.j1 : Nat → List Int → Int → Int → List Int → Int → Int → Bool → Option (Bool)
  | 0, _, _, _, _, _, _, _ => none
  | k + 1, x0, x3, x4, x5, x6, x7, x64 => if x64 = true then (some true) else (if x4 = 61 then (if x3 > 1 then (if 0 ≤ (wrap64 (x3 - 1)) then (if (wrap64 (x3 - 1)) < (x0.length : Int) then (if 0 ≤ (wrap64 (x3 - 2)) then (if (wrap64 (x3 - 2)) < (x0.length : Int) then (if (rd x0 (wrap64 (x3 - 1))) = (rd x0 (wrap64 (x3 - 2))) then (if (rd x0 (wrap64 (x3 - 1))) = 60 then (some true) else (if (rd x0 (wrap64 (x3 - 1))) = 62 then (some true) else (pidginlaw4_sets.l0 k x0 x5 x6 (wrap64 (x7 + 1))))) else (pidginlaw4_sets.l0 k x0 x5 x6 (wrap64 (x7 + 1)))) else (none)) else (none)) else (none)) else (none)) else (pidginlaw4_sets.l0 k x0 x5 x6 (wrap64 (x7 + 1)))) else (pidginlaw4_sets.l0 k x0 x5 x6 (wrap64 (x7 + 1))))
end
def pidginlaw4_sets.f (k : Nat) (l0 : List Int) : Option (Bool) := pidginlaw4_sets.l0 k l0 l0 (l0.length : Int) 0
theorem pidginlaw4_sets.mono_l : ∀ k, (∀ y0 y1 y2 y3, LeO (pidginlaw4_sets.l0 k y0 y1 y2 y3) (pidginlaw4_sets.l0 (k + 1) y0 y1 y2 y3)) ∧ (∀ y0 y1 y2 y3 y4 y5 y6, LeO (pidginlaw4_sets.j1 k y0 y1 y2 y3 y4 y5 y6) (pidginlaw4_sets.j1 (k + 1) y0 y1 y2 y3 y4 y5 y6))
  | 0 => ⟨fun _ _ _ _ r h => by simp [pidginlaw4_sets.l0] at h, fun _ _ _ _ _ _ _ r h => by simp [pidginlaw4_sets.j1] at h⟩
  | k + 1 => by
    obtain ⟨ih0, ih1⟩ := pidginlaw4_sets.mono_l k
    refine ⟨?_, ?_⟩
    · intro y0 y1 y2 y3
      unfold pidginlaw4_sets.l0
      repeat' first
      | (with_reducible exact ih0 _ _ _ _)
      | (with_reducible exact ih1 _ _ _ _ _ _ _)
      | (with_reducible exact LeO.refl _)
      | (with_reducible exact LeO.none _)
      | (with_reducible refine LeO.ite ?_ ?_)
      | (with_reducible refine LeO.bind ?_ (fun _ => ?_))
      | exact ih0 _ _ _ _
      | exact ih1 _ _ _ _ _ _ _
      | exact LeO.none _
      | refine LeO.ite ?_ ?_
      | refine LeO.bind ?_ (fun _ => ?_)
    · intro y0 y1 y2 y3 y4 y5 y6
      unfold pidginlaw4_sets.j1
      repeat' first
      | (with_reducible exact ih0 _ _ _ _)
      | (with_reducible exact ih1 _ _ _ _ _ _ _)
      | (with_reducible exact LeO.refl _)
      | (with_reducible exact LeO.none _)
      | (with_reducible refine LeO.ite ?_ ?_)
      | (with_reducible refine LeO.bind ?_ (fun _ => ?_))
      | exact ih0 _ _ _ _
      | exact ih1 _ _ _ _ _ _ _
      | exact LeO.none _
      | refine LeO.ite ?_ ?_
      | refine LeO.bind ?_ (fun _ => ?_)
theorem pidginlaw4_sets.mono : ∀ a0 k, LeO (pidginlaw4_sets.f k a0) (pidginlaw4_sets.f (k + 1) a0) := by
  intro a0 k
  obtain ⟨ih0, ih1⟩ := pidginlaw4_sets.mono_l k
  unfold pidginlaw4_sets.f
  repeat' first
      | (with_reducible exact ih0 _ _ _ _)
      | (with_reducible exact ih1 _ _ _ _ _ _ _)
      | (with_reducible exact LeO.refl _)
      | (with_reducible exact LeO.none _)
      | (with_reducible refine LeO.ite ?_ ?_)
      | (with_reducible refine LeO.bind ?_ (fun _ => ?_))
      | exact ih0 _ _ _ _
      | exact ih1 _ _ _ _ _ _ _
      | exact LeO.none _
      | refine LeO.ite ?_ ?_
      | refine LeO.bind ?_ (fun _ => ?_)
set_option maxHeartbeats 8000000 in
set_option maxRecDepth 100000 in
theorem pidginlaw4_sets.calls (k : Nat) (A0 : Option Addr) (c0 : Nat) (l0 : List Int) (r : Bool) (w : World) (hr0 : Kd.C (Kd.int .u8) w A0 l0.length l0) (hc0 : l0.length ≤ c0) (h : pidginlaw4_sets.f k l0 = some r) :
    Calls Tryz.prog 15 #[.slice A0 l0.length c0] w fun e w' => e = .returned (.bool r) ∧ Drawn0 w w' := by
  have HR0 := Aside0.mk hr0
  have HC0 := Aside0.mk hc0
  clear hr0 hc0
  have H : (pidginlaw4_sets.l0 k l0 l0 (l0.length : Int) 0) = some r := h
  clear h
  have H' := Aside0.mk H
  clear H
  go_enter Tryz.func15, Tryz.ntmps15
  go_wp2
  repeat (go_quiet (fail); try go_wp2)
  go_loopg [7] k (fun kq v7 w' => ∃ (x7_1 : Int), v7 = .int .i64 x7_1 ∧ Aside0 (pidginlaw4_sets.l0 kq l0 l0 (l0.length : Int) x7_1 = some r) ∧ Aside0 (kq ≤ k) ∧ Drawn0 w w')
  case atStart => exact ⟨(0), (by first | rfl | (simp; done) | (simp [*]; done)), H', ⟨Nat.le_refl _⟩, by repeat (first | exact Drawn0.refl _ | apply Drawn0.step)⟩
  case round =>
    clear H'
    try clear c1
    obtain ⟨x7_1, rfl, HA, HK1, ⟨m1, rfl⟩⟩ := hrel
    cases gk with
    | zero => exact absurd HA.out (by simp [pidginlaw4_sets.l0])
    | succ k1 =>
      have H := HA.out
      clear HA
      simp only [pidginlaw4_sets.l0] at H
      by_cases c2 : x7_1 < (l0.length : Int)
      · rw [if_pos c2] at H
        have c2b0 : decide (x7_1 < (l0.length : Int)) = true := decide_eq_true c2
        clear c2
        by_cases c3 : 0 ≤ x7_1
        · rw [if_pos c3] at H
          have c3b0 : decide (0 ≤ x7_1) = true := decide_eq_true c3
          clear c3
          by_cases c4 : x7_1 < (l0.length : Int)
          · rw [if_pos c4] at H
            have c4b0 : decide (x7_1 < (l0.length : Int)) = true := decide_eq_true c4
            clear c4
            have HC5 := Aside0.mk H
            clear H
            have p101 : 0 ≤ (x7_1 : Int) := of_decide_eq_true (by first | (with_reducible assumption) | assumption)
            have q101 : x7_1 < (l0.length : Int) := of_decide_eq_true (by first | (with_reducible assumption) | assumption)
            obtain ⟨ad101, e101, hx101_0⟩ := Kd.at_int HR0.out x7_1 p101 q101
            cases e101
            replace p101 := eq_true p101
            replace q101 := eq_true q101
            go_upto_region 4 with (fail)
            repeat (go_quiet (fail); go_upto_region 4 with (fail))
            go_cut [64] (fun v64 wc => ∃ (kq : Nat) (x64_4 : Bool), v64 = .bool x64_4 ∧ Aside0 (pidginlaw4_sets.j1 kq l0 x7_1 (rd l0 x7_1) l0 (l0.length : Int) x7_1 x64_4 = some r) ∧ Aside0 (kq ≤ k1) ∧ Drawn0 w wc)
            case first =>
              have H := HC5.out
              clear HC5
              by_cases c6 : (rd l0 x7_1) = 61
              · rw [if_pos c6] at H
                have c6b0 : ((rd l0 x7_1) == 61) = true := beq_iff_eq.mpr c6
                have c6b1 : ((rd l0 x7_1) != 61) = false := bne_eq_false_iff_eq.mpr c6
                clear c6
                (first | rw [c6b0] | (simp only [i64_w, i32_w]; rw [c6b0]) | skip)
                by_cases c7 : x7_1 = 0
                · rw [if_pos c7] at H
                  have c7b0 : (x7_1 == 0) = true := beq_iff_eq.mpr c7
                  have c7b1 : (x7_1 != 0) = false := bne_eq_false_iff_eq.mpr c7
                  clear c7
                  by_cases c8 : (wrap64 (x7_1 + 1)) = (l0.length : Int)
                  · rw [if_pos c8] at H
                    have c8b0 : ((wrap64 (x7_1 + 1)) == (l0.length : Int)) = true := beq_iff_eq.mpr c8
                    have c8b1 : ((wrap64 (x7_1 + 1)) != (l0.length : Int)) = false := bne_eq_false_iff_eq.mpr c8
                    clear c8
                    have H' := Aside0.mk H
                    clear H
                    go_wp2
                    repeat (go_quiet (fail); try go_wp2)
                    go_meet
                    case rel => exact ⟨_, (true), (by first | rfl | (simp; done) | (simp [*]; done)), H', ⟨by have := HK1.out; first | omega | exact Nat.le_refl _⟩, by repeat (first | exact Drawn0.refl _ | apply Drawn0.step)⟩
                  · rw [if_neg c8] at H
                    have c8b0 : ((wrap64 (x7_1 + 1)) == (l0.length : Int)) = false := beq_eq_false_iff_ne.mpr c8
                    have c8b1 : ((wrap64 (x7_1 + 1)) != (l0.length : Int)) = true := bne_iff_ne.mpr c8
                    obtain ⟨ji9, hji9⟩ : ∃ j_ : Int, (wrap64 (x7_1 + 1)) = j_ := ⟨_, rfl⟩
                    replace H : (if 0 ≤ (ji9) then (if (ji9) < (l0.length : Int) then (pidginlaw4_sets.j1 k1 l0 x7_1 (rd l0 x7_1) l0 (l0.length : Int) x7_1 ((rd l0 (ji9)) != 61)) else (none)) else (none)) = some r := by first | (rw [hji9] at H; exact H) | (simp only [hji9] at H ⊢; exact H)
                    (try rw [hji9] at c8b0)
                    (try rw [hji9] at c8b1)
                    have hji9w : (IntKind.i64.wrap (x7_1 + 1)) = ji9 := (i64_w _).trans hji9
                    by_cases c10 : 0 ≤ (ji9)
                    · rw [if_pos c10] at H
                      have c10b0 : decide (0 ≤ (ji9)) = true := decide_eq_true c10
                      clear c10
                      by_cases c11 : (ji9) < (l0.length : Int)
                      · rw [if_pos c11] at H
                        have c11b0 : decide ((ji9) < (l0.length : Int)) = true := decide_eq_true c11
                        clear c11
                        have H' := Aside0.mk H
                        clear H
                        have p102 : 0 ≤ ((ji9) : Int) := of_decide_eq_true (by first | (with_reducible assumption) | assumption)
                        have q102 : (ji9) < (l0.length : Int) := of_decide_eq_true (by first | (with_reducible assumption) | assumption)
                        obtain ⟨ad102, e102, hx102_0⟩ := Kd.at_int HR0.out (ji9) p102 q102
                        obtain rfl : ad101 = ad102 := (by injection e102)
                        replace p102 := eq_true p102
                        replace q102 := eq_true q102
                        go_wp2
                        repeat (go_quiet (fail); try go_wp2)
                        go_meet
                        case rel => exact ⟨_, (((rd l0 (ji9)) != 61)), (by first | rfl | (simp; done) | (simp only [← hji9] <;> (first | rfl | simp)) | (simp [*]; done)), H', ⟨by have := HK1.out; first | omega | exact Nat.le_refl _⟩, by repeat (first | exact Drawn0.refl _ | apply Drawn0.step)⟩
                      · rw [if_neg c11] at H
                        exact absurd H (by simp)
                    · rw [if_neg c10] at H
                      exact absurd H (by simp)
                · rw [if_neg c7] at H
                  have c7b0 : (x7_1 == 0) = false := beq_eq_false_iff_ne.mpr c7
                  have c7b1 : (x7_1 != 0) = true := bne_iff_ne.mpr c7
                  obtain ⟨ji12, hji12⟩ : ∃ j_ : Int, (wrap64 (x7_1 - 1)) = j_ := ⟨_, rfl⟩
                  replace H : (if 0 ≤ (ji12) then (if (ji12) < (l0.length : Int) then (if (rd l0 (ji12)) = 61 then (pidginlaw4_sets.j1 k1 l0 x7_1 (rd l0 x7_1) l0 (l0.length : Int) x7_1 false) else (if (rd l0 (ji12)) = 33 then (pidginlaw4_sets.j1 k1 l0 x7_1 (rd l0 x7_1) l0 (l0.length : Int) x7_1 false) else (if (rd l0 (ji12)) = 60 then (pidginlaw4_sets.j1 k1 l0 x7_1 (rd l0 x7_1) l0 (l0.length : Int) x7_1 false) else (if (rd l0 (ji12)) = 62 then (pidginlaw4_sets.j1 k1 l0 x7_1 (rd l0 x7_1) l0 (l0.length : Int) x7_1 false) else (if (wrap64 (x7_1 + 1)) = (l0.length : Int) then (pidginlaw4_sets.j1 k1 l0 x7_1 (rd l0 x7_1) l0 (l0.length : Int) x7_1 true) else (if 0 ≤ (wrap64 (x7_1 + 1)) then (if (wrap64 (x7_1 + 1)) < (l0.length : Int) then (pidginlaw4_sets.j1 k1 l0 x7_1 (rd l0 x7_1) l0 (l0.length : Int) x7_1 ((rd l0 (wrap64 (x7_1 + 1))) != 61)) else (none)) else (none))))))) else (none)) else (none)) = some r := by first | (rw [hji12] at H; exact H) | (simp only [hji12] at H ⊢; exact H)
                  have hji12w : (IntKind.i64.wrap (x7_1 - 1)) = ji12 := (i64_w _).trans hji12
                  by_cases c13 : 0 ≤ (ji12)
                  · rw [if_pos c13] at H
                    have c13b0 : decide (0 ≤ (ji12)) = true := decide_eq_true c13
                    clear c13
                    by_cases c14 : (ji12) < (l0.length : Int)
                    · rw [if_pos c14] at H
                      have c14b0 : decide ((ji12) < (l0.length : Int)) = true := decide_eq_true c14
                      clear c14
                      by_cases c15 : (rd l0 (ji12)) = 61
                      · rw [if_pos c15] at H
                        have c15b0 : ((rd l0 (ji12)) == 61) = true := beq_iff_eq.mpr c15
                        have c15b1 : ((rd l0 (ji12)) != 61) = false := bne_eq_false_iff_eq.mpr c15
                        clear c15
                        have H' := Aside0.mk H
                        clear H
                        have p103 : 0 ≤ ((ji12) : Int) := of_decide_eq_true (by first | (with_reducible assumption) | assumption)
                        have q103 : (ji12) < (l0.length : Int) := of_decide_eq_true (by first | (with_reducible assumption) | assumption)
                        obtain ⟨ad103, e103, hx103_0⟩ := Kd.at_int HR0.out (ji12) p103 q103
                        obtain rfl : ad101 = ad103 := (by injection e103)
                        replace p103 := eq_true p103
                        replace q103 := eq_true q103
                        go_wp2
                        repeat (go_quiet (fail); try go_wp2)
                        go_meet
                        case rel => exact ⟨_, (false), (by first | rfl | (simp; done) | (simp [*]; done)), H', ⟨by have := HK1.out; first | omega | exact Nat.le_refl _⟩, by repeat (first | exact Drawn0.refl _ | apply Drawn0.step)⟩
                      · rw [if_neg c15] at H
                        have c15b0 : ((rd l0 (ji12)) == 61) = false := beq_eq_false_iff_ne.mpr c15
                        have c15b1 : ((rd l0 (ji12)) != 61) = true := bne_iff_ne.mpr c15
                        by_cases c16 : (rd l0 (ji12)) = 33
                        · rw [if_pos c16] at H
                          have c16b0 : ((rd l0 (ji12)) == 33) = true := beq_iff_eq.mpr c16
                          have c16b1 : ((rd l0 (ji12)) != 33) = false := bne_eq_false_iff_eq.mpr c16
                          clear c16
                          have H' := Aside0.mk H
                          clear H
                          have p103 : 0 ≤ ((ji12) : Int) := of_decide_eq_true (by first | (with_reducible assumption) | assumption)
                          have q103 : (ji12) < (l0.length : Int) := of_decide_eq_true (by first | (with_reducible assumption) | assumption)
                          obtain ⟨ad103, e103, hx103_0⟩ := Kd.at_int HR0.out (ji12) p103 q103
                          obtain rfl : ad101 = ad103 := (by injection e103)
                          replace p103 := eq_true p103
                          replace q103 := eq_true q103
                          have p104 : 0 ≤ ((ji12) : Int) := of_decide_eq_true (by first | (with_reducible assumption) | assumption)
                          have q104 : (ji12) < (l0.length : Int) := of_decide_eq_true (by first | (with_reducible assumption) | assumption)
                          obtain ⟨ad104, e104, hx104_0⟩ := Kd.at_int HR0.out (ji12) p104 q104
                          obtain rfl : ad101 = ad104 := (by injection e104)
                          replace p104 := eq_true p104
                          replace q104 := eq_true q104
                          go_wp2
                          repeat (go_quiet (fail); try go_wp2)
                          go_meet
                          case rel => exact ⟨_, (false), (by first | rfl | (simp; done) | (simp [*]; done)), H', ⟨by have := HK1.out; first | omega | exact Nat.le_refl _⟩, by repeat (first | exact Drawn0.refl _ | apply Drawn0.step)⟩
                        · rw [if_neg c16] at H
                          have c16b0 : ((rd l0 (ji12)) == 33) = false := beq_eq_false_iff_ne.mpr c16
                          have c16b1 : ((rd l0 (ji12)) != 33) = true := bne_iff_ne.mpr c16
                          by_cases c17 : (rd l0 (ji12)) = 60
                          · rw [if_pos c17] at H
                            have c17b0 : ((rd l0 (ji12)) == 60) = true := beq_iff_eq.mpr c17
                            have c17b1 : ((rd l0 (ji12)) != 60) = false := bne_eq_false_iff_eq.mpr c17
                            clear c17
                            have H' := Aside0.mk H
                            clear H
                            have p103 : 0 ≤ ((ji12) : Int) := of_decide_eq_true (by first | (with_reducible assumption) | assumption)
                            have q103 : (ji12) < (l0.length : Int) := of_decide_eq_true (by first | (with_reducible assumption) | assumption)
                            obtain ⟨ad103, e103, hx103_0⟩ := Kd.at_int HR0.out (ji12) p103 q103
                            obtain rfl : ad101 = ad103 := (by injection e103)
                            replace p103 := eq_true p103
                            replace q103 := eq_true q103
                            have p104 : 0 ≤ ((ji12) : Int) := of_decide_eq_true (by first | (with_reducible assumption) | assumption)
                            have q104 : (ji12) < (l0.length : Int) := of_decide_eq_true (by first | (with_reducible assumption) | assumption)
                            obtain ⟨ad104, e104, hx104_0⟩ := Kd.at_int HR0.out (ji12) p104 q104
                            obtain rfl : ad101 = ad104 := (by injection e104)
                            replace p104 := eq_true p104
                            replace q104 := eq_true q104
                            have p105 : 0 ≤ ((ji12) : Int) := of_decide_eq_true (by first | (with_reducible assumption) | assumption)
                            have q105 : (ji12) < (l0.length : Int) := of_decide_eq_true (by first | (with_reducible assumption) | assumption)
                            obtain ⟨ad105, e105, hx105_0⟩ := Kd.at_int HR0.out (ji12) p105 q105
                            obtain rfl : ad101 = ad105 := (by injection e105)
                            replace p105 := eq_true p105
                            replace q105 := eq_true q105
                            go_wp2
                            repeat (go_quiet (fail); try go_wp2)
                            go_meet
                            case rel => exact ⟨_, (false), (by first | rfl | (simp; done) | (simp [*]; done)), H', ⟨by have := HK1.out; first | omega | exact Nat.le_refl _⟩, by repeat (first | exact Drawn0.refl _ | apply Drawn0.step)⟩
                          · rw [if_neg c17] at H
                            have c17b0 : ((rd l0 (ji12)) == 60) = false := beq_eq_false_iff_ne.mpr c17
                            have c17b1 : ((rd l0 (ji12)) != 60) = true := bne_iff_ne.mpr c17
                            by_cases c18 : (rd l0 (ji12)) = 62
                            · rw [if_pos c18] at H
                              have c18b0 : ((rd l0 (ji12)) == 62) = true := beq_iff_eq.mpr c18
                              have c18b1 : ((rd l0 (ji12)) != 62) = false := bne_eq_false_iff_eq.mpr c18
                              clear c18
                              have H' := Aside0.mk H
                              clear H
                              have p103 : 0 ≤ ((ji12) : Int) := of_decide_eq_true (by first | (with_reducible assumption) | assumption)
                              have q103 : (ji12) < (l0.length : Int) := of_decide_eq_true (by first | (with_reducible assumption) | assumption)
                              obtain ⟨ad103, e103, hx103_0⟩ := Kd.at_int HR0.out (ji12) p103 q103
                              obtain rfl : ad101 = ad103 := (by injection e103)
                              replace p103 := eq_true p103
                              replace q103 := eq_true q103
                              have p104 : 0 ≤ ((ji12) : Int) := of_decide_eq_true (by first | (with_reducible assumption) | assumption)
                              have q104 : (ji12) < (l0.length : Int) := of_decide_eq_true (by first | (with_reducible assumption) | assumption)
                              obtain ⟨ad104, e104, hx104_0⟩ := Kd.at_int HR0.out (ji12) p104 q104
                              obtain rfl : ad101 = ad104 := (by injection e104)
                              replace p104 := eq_true p104
                              replace q104 := eq_true q104
                              have p105 : 0 ≤ ((ji12) : Int) := of_decide_eq_true (by first | (with_reducible assumption) | assumption)
                              have q105 : (ji12) < (l0.length : Int) := of_decide_eq_true (by first | (with_reducible assumption) | assumption)
                              obtain ⟨ad105, e105, hx105_0⟩ := Kd.at_int HR0.out (ji12) p105 q105
                              obtain rfl : ad101 = ad105 := (by injection e105)
                              replace p105 := eq_true p105
                              replace q105 := eq_true q105
                              have p106 : 0 ≤ ((ji12) : Int) := of_decide_eq_true (by first | (with_reducible assumption) | assumption)
                              have q106 : (ji12) < (l0.length : Int) := of_decide_eq_true (by first | (with_reducible assumption) | assumption)
                              obtain ⟨ad106, e106, hx106_0⟩ := Kd.at_int HR0.out (ji12) p106 q106
                              obtain rfl : ad101 = ad106 := (by injection e106)
                              replace p106 := eq_true p106
                              replace q106 := eq_true q106
                              go_wp2
                              repeat (go_quiet (fail); try go_wp2)
                              go_meet
                              case rel => exact ⟨_, (false), (by first | rfl | (simp; done) | (simp [*]; done)), H', ⟨by have := HK1.out; first | omega | exact Nat.le_refl _⟩, by repeat (first | exact Drawn0.refl _ | apply Drawn0.step)⟩
                            · rw [if_neg c18] at H
                              have c18b0 : ((rd l0 (ji12)) == 62) = false := beq_eq_false_iff_ne.mpr c18
                              have c18b1 : ((rd l0 (ji12)) != 62) = true := bne_iff_ne.mpr c18
                              by_cases c19 : (wrap64 (x7_1 + 1)) = (l0.length : Int)
                              · rw [if_pos c19] at H
                                have c19b0 : ((wrap64 (x7_1 + 1)) == (l0.length : Int)) = true := beq_iff_eq.mpr c19
                                have c19b1 : ((wrap64 (x7_1 + 1)) != (l0.length : Int)) = false := bne_eq_false_iff_eq.mpr c19
                                clear c19
                                have H' := Aside0.mk H
                                clear H
                                have p103 : 0 ≤ ((ji12) : Int) := of_decide_eq_true (by first | (with_reducible assumption) | assumption)
                                have q103 : (ji12) < (l0.length : Int) := of_decide_eq_true (by first | (with_reducible assumption) | assumption)
                                obtain ⟨ad103, e103, hx103_0⟩ := Kd.at_int HR0.out (ji12) p103 q103
                                obtain rfl : ad101 = ad103 := (by injection e103)
                                replace p103 := eq_true p103
                                replace q103 := eq_true q103
                                have p104 : 0 ≤ ((ji12) : Int) := of_decide_eq_true (by first | (with_reducible assumption) | assumption)
                                have q104 : (ji12) < (l0.length : Int) := of_decide_eq_true (by first | (with_reducible assumption) | assumption)
                                obtain ⟨ad104, e104, hx104_0⟩ := Kd.at_int HR0.out (ji12) p104 q104
                                obtain rfl : ad101 = ad104 := (by injection e104)
                                replace p104 := eq_true p104
                                replace q104 := eq_true q104
                                have p105 : 0 ≤ ((ji12) : Int) := of_decide_eq_true (by first | (with_reducible assumption) | assumption)
                                have q105 : (ji12) < (l0.length : Int) := of_decide_eq_true (by first | (with_reducible assumption) | assumption)
                                obtain ⟨ad105, e105, hx105_0⟩ := Kd.at_int HR0.out (ji12) p105 q105
                                obtain rfl : ad101 = ad105 := (by injection e105)
                                replace p105 := eq_true p105
                                replace q105 := eq_true q105
                                have p106 : 0 ≤ ((ji12) : Int) := of_decide_eq_true (by first | (with_reducible assumption) | assumption)
                                have q106 : (ji12) < (l0.length : Int) := of_decide_eq_true (by first | (with_reducible assumption) | assumption)
                                obtain ⟨ad106, e106, hx106_0⟩ := Kd.at_int HR0.out (ji12) p106 q106
                                obtain rfl : ad101 = ad106 := (by injection e106)
                                replace p106 := eq_true p106
                                replace q106 := eq_true q106
                                go_wp2
                                repeat (go_quiet (fail); try go_wp2)
                                go_meet
                                case rel => exact ⟨_, (true), (by first | rfl | (simp; done) | (simp [*]; done)), H', ⟨by have := HK1.out; first | omega | exact Nat.le_refl _⟩, by repeat (first | exact Drawn0.refl _ | apply Drawn0.step)⟩
                              · rw [if_neg c19] at H
                                have c19b0 : ((wrap64 (x7_1 + 1)) == (l0.length : Int)) = false := beq_eq_false_iff_ne.mpr c19
                                have c19b1 : ((wrap64 (x7_1 + 1)) != (l0.length : Int)) = true := bne_iff_ne.mpr c19
                                obtain ⟨ji20, hji20⟩ : ∃ j_ : Int, (wrap64 (x7_1 + 1)) = j_ := ⟨_, rfl⟩
                                replace H : (if 0 ≤ (ji20) then (if (ji20) < (l0.length : Int) then (pidginlaw4_sets.j1 k1 l0 x7_1 (rd l0 x7_1) l0 (l0.length : Int) x7_1 ((rd l0 (ji20)) != 61)) else (none)) else (none)) = some r := by first | (rw [hji20] at H; exact H) | (simp only [hji20] at H ⊢; exact H)
                                (try rw [hji20] at c19b0)
                                (try rw [hji20] at c19b1)
                                have hji20w : (IntKind.i64.wrap (x7_1 + 1)) = ji20 := (i64_w _).trans hji20
                                by_cases c21 : 0 ≤ (ji20)
                                · rw [if_pos c21] at H
                                  have c21b0 : decide (0 ≤ (ji20)) = true := decide_eq_true c21
                                  clear c21
                                  by_cases c22 : (ji20) < (l0.length : Int)
                                  · rw [if_pos c22] at H
                                    have c22b0 : decide ((ji20) < (l0.length : Int)) = true := decide_eq_true c22
                                    clear c22
                                    have H' := Aside0.mk H
                                    clear H
                                    have p103 : 0 ≤ ((ji12) : Int) := of_decide_eq_true (by first | (with_reducible assumption) | assumption)
                                    have q103 : (ji12) < (l0.length : Int) := of_decide_eq_true (by first | (with_reducible assumption) | assumption)
                                    obtain ⟨ad103, e103, hx103_0⟩ := Kd.at_int HR0.out (ji12) p103 q103
                                    obtain rfl : ad101 = ad103 := (by injection e103)
                                    replace p103 := eq_true p103
                                    replace q103 := eq_true q103
                                    have p104 : 0 ≤ ((ji12) : Int) := of_decide_eq_true (by first | (with_reducible assumption) | assumption)
                                    have q104 : (ji12) < (l0.length : Int) := of_decide_eq_true (by first | (with_reducible assumption) | assumption)
                                    obtain ⟨ad104, e104, hx104_0⟩ := Kd.at_int HR0.out (ji12) p104 q104
                                    obtain rfl : ad101 = ad104 := (by injection e104)
                                    replace p104 := eq_true p104
                                    replace q104 := eq_true q104
                                    have p105 : 0 ≤ ((ji12) : Int) := of_decide_eq_true (by first | (with_reducible assumption) | assumption)
                                    have q105 : (ji12) < (l0.length : Int) := of_decide_eq_true (by first | (with_reducible assumption) | assumption)
                                    obtain ⟨ad105, e105, hx105_0⟩ := Kd.at_int HR0.out (ji12) p105 q105
                                    obtain rfl : ad101 = ad105 := (by injection e105)
                                    replace p105 := eq_true p105
                                    replace q105 := eq_true q105
                                    have p106 : 0 ≤ ((ji12) : Int) := of_decide_eq_true (by first | (with_reducible assumption) | assumption)
                                    have q106 : (ji12) < (l0.length : Int) := of_decide_eq_true (by first | (with_reducible assumption) | assumption)
                                    obtain ⟨ad106, e106, hx106_0⟩ := Kd.at_int HR0.out (ji12) p106 q106
                                    obtain rfl : ad101 = ad106 := (by injection e106)
                                    replace p106 := eq_true p106
                                    replace q106 := eq_true q106
                                    have p107 : 0 ≤ ((ji20) : Int) := of_decide_eq_true (by first | (with_reducible assumption) | assumption)
                                    have q107 : (ji20) < (l0.length : Int) := of_decide_eq_true (by first | (with_reducible assumption) | assumption)
                                    obtain ⟨ad107, e107, hx107_0⟩ := Kd.at_int HR0.out (ji20) p107 q107
                                    obtain rfl : ad101 = ad107 := (by injection e107)
                                    replace p107 := eq_true p107
                                    replace q107 := eq_true q107
                                    go_wp2
                                    repeat (go_quiet (fail); try go_wp2)
                                    go_meet
                                    case rel => exact ⟨_, (((rd l0 (ji20)) != 61)), (by first | rfl | (simp; done) | (simp only [← hji20] <;> (first | rfl | simp)) | (simp [*]; done)), H', ⟨by have := HK1.out; first | omega | exact Nat.le_refl _⟩, by repeat (first | exact Drawn0.refl _ | apply Drawn0.step)⟩
                                  · rw [if_neg c22] at H
                                    exact absurd H (by simp)
                                · rw [if_neg c21] at H
                                  exact absurd H (by simp)
                    · rw [if_neg c14] at H
                      exact absurd H (by simp)
                  · rw [if_neg c13] at H
                    exact absurd H (by simp)
              · rw [if_neg c6] at H
                have c6b0 : ((rd l0 x7_1) == 61) = false := beq_eq_false_iff_ne.mpr c6
                have c6b1 : ((rd l0 x7_1) != 61) = true := bne_iff_ne.mpr c6
                (first | rw [c6b0] | (simp only [i64_w, i32_w]; rw [c6b0]) | skip)
                have H' := Aside0.mk H
                clear H
                go_wp2
                repeat (go_quiet (fail); try go_wp2)
                go_meet
                case rel => exact ⟨_, (false), (by first | rfl | (simp; done) | (simp [*]; done)), H', ⟨by have := HK1.out; first | omega | exact Nat.le_refl _⟩, by repeat (first | exact Drawn0.refl _ | apply Drawn0.step)⟩
            case rest =>
              clear HC5
              try clear c1
              try clear p1
              try clear q1
              try clear hx1
              try clear c2
              try clear c2b0
              try clear p2
              try clear c3
              try clear c3b0
              try clear c4
              try clear c4b0
              try clear c6
              try clear c6b0
              try clear c6b1
              try clear p6
              try clear c7
              try clear c7b0
              try clear c7b1
              try clear c8
              try clear c8b0
              try clear c8b1
              try clear c10
              try clear c10b0
              try clear p10
              try clear q10
              try clear hx10
              try clear c11
              try clear c11b0
              try clear c13
              try clear c13b0
              try clear c14
              try clear c14b0
              try clear c15
              try clear c15b0
              try clear c15b1
              try clear c16
              try clear c16b0
              try clear c16b1
              try clear c17
              try clear c17b0
              try clear c17b1
              try clear c18
              try clear c18b0
              try clear c18b1
              try clear c19
              try clear c19b0
              try clear c19b1
              try clear c21
              try clear c21b0
              try clear c22
              try clear c22b0
              try clear hx101_0
              try clear hx102_0
              try clear hx103_0
              try clear hx104_0
              try clear hx105_0
              try clear hx106_0
              try clear hx107_0
              try clear p101
              try clear p102
              try clear p103
              try clear p104
              try clear p105
              try clear p106
              try clear p107
              try clear q101
              try clear q102
              try clear q103
              try clear q104
              try clear q105
              try clear q106
              try clear q107
              obtain ⟨kq, x64_4, rfl, HA, HJ4, ⟨mc4, rfl⟩⟩ := hcut
              cases kq with
              | zero => exact absurd HA.out (by simp [pidginlaw4_sets.j1])
              | succ kj4 =>
                have H := HA.out
                clear HA
                simp only [pidginlaw4_sets.j1] at H
                by_cases c23 : x64_4 = true
                · subst c23
                  have H1 : (some true) = some r := by rw [if_pos rfl] at H; exact H
                  clear H
                  have H := H1
                  clear H1
                  obtain rfl := Option.some.inj H
                  go_wp2
                  repeat (go_quiet (fail); try go_wp2)
                  go_ret
                  exact ⟨by first | rfl | (simp; done) | (simp [*]; done), by repeat (first | exact Drawn0.refl _ | apply Drawn0.step)⟩
                · replace c23 := Bool.eq_false_iff.mpr c23
                  subst c23
                  have H1 : (if (rd l0 x7_1) = 61 then (if x7_1 > 1 then (if 0 ≤ (wrap64 (x7_1 - 1)) then (if (wrap64 (x7_1 - 1)) < (l0.length : Int) then (if 0 ≤ (wrap64 (x7_1 - 2)) then (if (wrap64 (x7_1 - 2)) < (l0.length : Int) then (if (rd l0 (wrap64 (x7_1 - 1))) = (rd l0 (wrap64 (x7_1 - 2))) then (if (rd l0 (wrap64 (x7_1 - 1))) = 60 then (some true) else (if (rd l0 (wrap64 (x7_1 - 1))) = 62 then (some true) else (pidginlaw4_sets.l0 kj4 l0 l0 (l0.length : Int) (wrap64 (x7_1 + 1))))) else (pidginlaw4_sets.l0 kj4 l0 l0 (l0.length : Int) (wrap64 (x7_1 + 1)))) else (none)) else (none)) else (none)) else (none)) else (pidginlaw4_sets.l0 kj4 l0 l0 (l0.length : Int) (wrap64 (x7_1 + 1)))) else (pidginlaw4_sets.l0 kj4 l0 l0 (l0.length : Int) (wrap64 (x7_1 + 1)))) = some r := by rw [if_neg (show ¬ (false = true) by decide)] at H; exact H
                  clear H
                  have H := H1
                  clear H1
                  by_cases c24 : (rd l0 x7_1) = 61
                  · rw [if_pos c24] at H
                    have c24b0 : ((rd l0 x7_1) == 61) = true := beq_iff_eq.mpr c24
                    have c24b1 : ((rd l0 x7_1) != 61) = false := bne_eq_false_iff_eq.mpr c24
                    clear c24
                    by_cases c25 : x7_1 > 1
                    · rw [if_pos c25] at H
                      have c25b0 : decide (1 < x7_1) = true := decide_eq_true c25
                      clear c25
                      obtain ⟨ji26, hji26⟩ : ∃ j_ : Int, (wrap64 (x7_1 - 1)) = j_ := ⟨_, rfl⟩
                      replace H : (if 0 ≤ (ji26) then (if (ji26) < (l0.length : Int) then (if 0 ≤ (wrap64 (x7_1 - 2)) then (if (wrap64 (x7_1 - 2)) < (l0.length : Int) then (if (rd l0 (ji26)) = (rd l0 (wrap64 (x7_1 - 2))) then (if (rd l0 (ji26)) = 60 then (some true) else (if (rd l0 (ji26)) = 62 then (some true) else (pidginlaw4_sets.l0 kj4 l0 l0 (l0.length : Int) (wrap64 (x7_1 + 1))))) else (pidginlaw4_sets.l0 kj4 l0 l0 (l0.length : Int) (wrap64 (x7_1 + 1)))) else (none)) else (none)) else (none)) else (none)) = some r := by first | (rw [hji26] at H; exact H) | (simp only [hji26] at H ⊢; exact H)
                      have hji26w : (IntKind.i64.wrap (x7_1 - 1)) = ji26 := (i64_w _).trans hji26
                      by_cases c27 : 0 ≤ (ji26)
                      · rw [if_pos c27] at H
                        have c27b0 : decide (0 ≤ (ji26)) = true := decide_eq_true c27
                        clear c27
                        by_cases c28 : (ji26) < (l0.length : Int)
                        · rw [if_pos c28] at H
                          have c28b0 : decide ((ji26) < (l0.length : Int)) = true := decide_eq_true c28
                          clear c28
                          obtain ⟨ji29, hji29⟩ : ∃ j_ : Int, (wrap64 (x7_1 - 2)) = j_ := ⟨_, rfl⟩
                          replace H : (if 0 ≤ (ji29) then (if (ji29) < (l0.length : Int) then (if (rd l0 (ji26)) = (rd l0 (ji29)) then (if (rd l0 (ji26)) = 60 then (some true) else (if (rd l0 (ji26)) = 62 then (some true) else (pidginlaw4_sets.l0 kj4 l0 l0 (l0.length : Int) (wrap64 (x7_1 + 1))))) else (pidginlaw4_sets.l0 kj4 l0 l0 (l0.length : Int) (wrap64 (x7_1 + 1)))) else (none)) else (none)) = some r := by first | (rw [hji29] at H; exact H) | (simp only [hji29] at H ⊢; exact H)
                          have hji29w : (IntKind.i64.wrap (x7_1 - 2)) = ji29 := (i64_w _).trans hji29
                          by_cases c30 : 0 ≤ (ji29)
                          · rw [if_pos c30] at H
                            have c30b0 : decide (0 ≤ (ji29)) = true := decide_eq_true c30
                            clear c30
                            by_cases c31 : (ji29) < (l0.length : Int)
                            · rw [if_pos c31] at H
                              have c31b0 : decide ((ji29) < (l0.length : Int)) = true := decide_eq_true c31
                              clear c31
                              by_cases c32 : (rd l0 (ji26)) = (rd l0 (ji29))
                              · rw [if_pos c32] at H
                                have c32b0 : ((rd l0 (ji26)) == (rd l0 (ji29))) = true := beq_iff_eq.mpr c32
                                have c32b1 : ((rd l0 (ji26)) != (rd l0 (ji29))) = false := bne_eq_false_iff_eq.mpr c32
                                clear c32
                                by_cases c33 : (rd l0 (ji26)) = 60
                                · rw [if_pos c33] at H
                                  have c33b0 : ((rd l0 (ji26)) == 60) = true := beq_iff_eq.mpr c33
                                  have c33b1 : ((rd l0 (ji26)) != 60) = false := bne_eq_false_iff_eq.mpr c33
                                  clear c33
                                  obtain rfl := Option.some.inj H
                                  have p108 : 0 ≤ ((ji26) : Int) := of_decide_eq_true (by first | (with_reducible assumption) | assumption)
                                  have q108 : (ji26) < (l0.length : Int) := of_decide_eq_true (by first | (with_reducible assumption) | assumption)
                                  obtain ⟨ad108, e108, hx108_0⟩ := Kd.at_int HR0.out (ji26) p108 q108
                                  obtain rfl : ad101 = ad108 := (by injection e108)
                                  replace p108 := eq_true p108
                                  replace q108 := eq_true q108
                                  have p109 : 0 ≤ ((ji29) : Int) := of_decide_eq_true (by first | (with_reducible assumption) | assumption)
                                  have q109 : (ji29) < (l0.length : Int) := of_decide_eq_true (by first | (with_reducible assumption) | assumption)
                                  obtain ⟨ad109, e109, hx109_0⟩ := Kd.at_int HR0.out (ji29) p109 q109
                                  obtain rfl : ad101 = ad109 := (by injection e109)
                                  replace p109 := eq_true p109
                                  replace q109 := eq_true q109
                                  have p110 : 0 ≤ ((ji26) : Int) := of_decide_eq_true (by first | (with_reducible assumption) | assumption)
                                  have q110 : (ji26) < (l0.length : Int) := of_decide_eq_true (by first | (with_reducible assumption) | assumption)
                                  obtain ⟨ad110, e110, hx110_0⟩ := Kd.at_int HR0.out (ji26) p110 q110
                                  obtain rfl : ad101 = ad110 := (by injection e110)
                                  replace p110 := eq_true p110
                                  replace q110 := eq_true q110
                                  go_wp2
                                  repeat (go_quiet (fail); try go_wp2)
                                  go_ret
                                  exact ⟨by first | rfl | (simp; done) | (simp only [← hji26, ← hji29] <;> (first | rfl | simp)) | (simp [*]; done), by repeat (first | exact Drawn0.refl _ | apply Drawn0.step)⟩
                                · rw [if_neg c33] at H
                                  have c33b0 : ((rd l0 (ji26)) == 60) = false := beq_eq_false_iff_ne.mpr c33
                                  have c33b1 : ((rd l0 (ji26)) != 60) = true := bne_iff_ne.mpr c33
                                  by_cases c34 : (rd l0 (ji26)) = 62
                                  · rw [if_pos c34] at H
                                    have c34b0 : ((rd l0 (ji26)) == 62) = true := beq_iff_eq.mpr c34
                                    have c34b1 : ((rd l0 (ji26)) != 62) = false := bne_eq_false_iff_eq.mpr c34
                                    clear c34
                                    obtain rfl := Option.some.inj H
                                    have p108 : 0 ≤ ((ji26) : Int) := of_decide_eq_true (by first | (with_reducible assumption) | assumption)
                                    have q108 : (ji26) < (l0.length : Int) := of_decide_eq_true (by first | (with_reducible assumption) | assumption)
                                    obtain ⟨ad108, e108, hx108_0⟩ := Kd.at_int HR0.out (ji26) p108 q108
                                    obtain rfl : ad101 = ad108 := (by injection e108)
                                    replace p108 := eq_true p108
                                    replace q108 := eq_true q108
                                    have p109 : 0 ≤ ((ji29) : Int) := of_decide_eq_true (by first | (with_reducible assumption) | assumption)
                                    have q109 : (ji29) < (l0.length : Int) := of_decide_eq_true (by first | (with_reducible assumption) | assumption)
                                    obtain ⟨ad109, e109, hx109_0⟩ := Kd.at_int HR0.out (ji29) p109 q109
                                    obtain rfl : ad101 = ad109 := (by injection e109)
                                    replace p109 := eq_true p109
                                    replace q109 := eq_true q109
                                    have p110 : 0 ≤ ((ji26) : Int) := of_decide_eq_true (by first | (with_reducible assumption) | assumption)
                                    have q110 : (ji26) < (l0.length : Int) := of_decide_eq_true (by first | (with_reducible assumption) | assumption)
                                    obtain ⟨ad110, e110, hx110_0⟩ := Kd.at_int HR0.out (ji26) p110 q110
                                    obtain rfl : ad101 = ad110 := (by injection e110)
                                    replace p110 := eq_true p110
                                    replace q110 := eq_true q110
                                    have p111 : 0 ≤ ((ji26) : Int) := of_decide_eq_true (by first | (with_reducible assumption) | assumption)
                                    have q111 : (ji26) < (l0.length : Int) := of_decide_eq_true (by first | (with_reducible assumption) | assumption)
                                    obtain ⟨ad111, e111, hx111_0⟩ := Kd.at_int HR0.out (ji26) p111 q111
                                    obtain rfl : ad101 = ad111 := (by injection e111)
                                    replace p111 := eq_true p111
                                    replace q111 := eq_true q111
                                    go_wp2
                                    repeat (go_quiet (fail); try go_wp2)
                                    go_ret
                                    exact ⟨by first | rfl | (simp; done) | (simp only [← hji26, ← hji29] <;> (first | rfl | simp)) | (simp [*]; done), by repeat (first | exact Drawn0.refl _ | apply Drawn0.step)⟩
                                  · rw [if_neg c34] at H
                                    have c34b0 : ((rd l0 (ji26)) == 62) = false := beq_eq_false_iff_ne.mpr c34
                                    have c34b1 : ((rd l0 (ji26)) != 62) = true := bne_iff_ne.mpr c34
                                    have H' := Aside0.mk H
                                    clear H
                                    have p108 : 0 ≤ ((ji26) : Int) := of_decide_eq_true (by first | (with_reducible assumption) | assumption)
                                    have q108 : (ji26) < (l0.length : Int) := of_decide_eq_true (by first | (with_reducible assumption) | assumption)
                                    obtain ⟨ad108, e108, hx108_0⟩ := Kd.at_int HR0.out (ji26) p108 q108
                                    obtain rfl : ad101 = ad108 := (by injection e108)
                                    replace p108 := eq_true p108
                                    replace q108 := eq_true q108
                                    have p109 : 0 ≤ ((ji29) : Int) := of_decide_eq_true (by first | (with_reducible assumption) | assumption)
                                    have q109 : (ji29) < (l0.length : Int) := of_decide_eq_true (by first | (with_reducible assumption) | assumption)
                                    obtain ⟨ad109, e109, hx109_0⟩ := Kd.at_int HR0.out (ji29) p109 q109
                                    obtain rfl : ad101 = ad109 := (by injection e109)
                                    replace p109 := eq_true p109
                                    replace q109 := eq_true q109
                                    have p110 : 0 ≤ ((ji26) : Int) := of_decide_eq_true (by first | (with_reducible assumption) | assumption)
                                    have q110 : (ji26) < (l0.length : Int) := of_decide_eq_true (by first | (with_reducible assumption) | assumption)
                                    obtain ⟨ad110, e110, hx110_0⟩ := Kd.at_int HR0.out (ji26) p110 q110
                                    obtain rfl : ad101 = ad110 := (by injection e110)
                                    replace p110 := eq_true p110
                                    replace q110 := eq_true q110
                                    have p111 : 0 ≤ ((ji26) : Int) := of_decide_eq_true (by first | (with_reducible assumption) | assumption)
                                    have q111 : (ji26) < (l0.length : Int) := of_decide_eq_true (by first | (with_reducible assumption) | assumption)
                                    obtain ⟨ad111, e111, hx111_0⟩ := Kd.at_int HR0.out (ji26) p111 q111
                                    obtain rfl : ad101 = ad111 := (by injection e111)
                                    replace p111 := eq_true p111
                                    replace q111 := eq_true q111
                                    go_wp2
                                    repeat (go_quiet (fail); try go_wp2)
                                    go_roundg kj4
                                    case measure => have := HK1.out; have := HJ4.out; omega
                                    case rel => exact ⟨(wrap64 (x7_1 + 1)), (by first | rfl | (simp; done) | (simp [*]; done)), H', ⟨by have := HK1.out; have := HJ4.out; omega⟩, by repeat (first | exact Drawn0.refl _ | apply Drawn0.step)⟩
                              · rw [if_neg c32] at H
                                have c32b0 : ((rd l0 (ji26)) == (rd l0 (ji29))) = false := beq_eq_false_iff_ne.mpr c32
                                have c32b1 : ((rd l0 (ji26)) != (rd l0 (ji29))) = true := bne_iff_ne.mpr c32
                                have H' := Aside0.mk H
                                clear H
                                have p108 : 0 ≤ ((ji26) : Int) := of_decide_eq_true (by first | (with_reducible assumption) | assumption)
                                have q108 : (ji26) < (l0.length : Int) := of_decide_eq_true (by first | (with_reducible assumption) | assumption)
                                obtain ⟨ad108, e108, hx108_0⟩ := Kd.at_int HR0.out (ji26) p108 q108
                                obtain rfl : ad101 = ad108 := (by injection e108)
                                replace p108 := eq_true p108
                                replace q108 := eq_true q108
                                have p109 : 0 ≤ ((ji29) : Int) := of_decide_eq_true (by first | (with_reducible assumption) | assumption)
                                have q109 : (ji29) < (l0.length : Int) := of_decide_eq_true (by first | (with_reducible assumption) | assumption)
                                obtain ⟨ad109, e109, hx109_0⟩ := Kd.at_int HR0.out (ji29) p109 q109
                                obtain rfl : ad101 = ad109 := (by injection e109)
                                replace p109 := eq_true p109
                                replace q109 := eq_true q109
                                go_wp2
                                repeat (go_quiet (fail); try go_wp2)
                                go_roundg kj4
                                case measure => have := HK1.out; have := HJ4.out; omega
                                case rel => exact ⟨(wrap64 (x7_1 + 1)), (by first | rfl | (simp; done) | (simp [*]; done)), H', ⟨by have := HK1.out; have := HJ4.out; omega⟩, by repeat (first | exact Drawn0.refl _ | apply Drawn0.step)⟩
                            · rw [if_neg c31] at H
                              exact absurd H (by simp)
                          · rw [if_neg c30] at H
                            exact absurd H (by simp)
                        · rw [if_neg c28] at H
                          exact absurd H (by simp)
                      · rw [if_neg c27] at H
                        exact absurd H (by simp)
                    · rw [if_neg c25] at H
                      have c25b0 : decide (1 < x7_1) = false := decide_eq_false c25
                      clear c25
                      have H' := Aside0.mk H
                      clear H
                      go_wp2
                      repeat (go_quiet (fail); try go_wp2)
                      go_roundg kj4
                      case measure => have := HK1.out; have := HJ4.out; omega
                      case rel => exact ⟨(wrap64 (x7_1 + 1)), (by first | rfl | (simp; done) | (simp [*]; done)), H', ⟨by have := HK1.out; have := HJ4.out; omega⟩, by repeat (first | exact Drawn0.refl _ | apply Drawn0.step)⟩
                  · rw [if_neg c24] at H
                    have c24b0 : ((rd l0 x7_1) == 61) = false := beq_eq_false_iff_ne.mpr c24
                    have c24b1 : ((rd l0 x7_1) != 61) = true := bne_iff_ne.mpr c24
                    have H' := Aside0.mk H
                    clear H
                    go_wp2
                    repeat (go_quiet (fail); try go_wp2)
                    go_roundg kj4
                    case measure => have := HK1.out; have := HJ4.out; omega
                    case rel => exact ⟨(wrap64 (x7_1 + 1)), (by first | rfl | (simp; done) | (simp [*]; done)), H', ⟨by have := HK1.out; have := HJ4.out; omega⟩, by repeat (first | exact Drawn0.refl _ | apply Drawn0.step)⟩
          · rw [if_neg c4] at H
            exact absurd H (by simp)
        · rw [if_neg c3] at H
          exact absurd H (by simp)
      · rw [if_neg c2] at H
        have c2b0 : decide (x7_1 < (l0.length : Int)) = false := decide_eq_false c2
        clear c2
        obtain rfl := Option.some.inj H
        go_wp2
        repeat (go_quiet (fail); try go_wp2)
        go_ret
        exact ⟨by first | rfl | (simp; done) | (simp [*]; done), by repeat (first | exact Drawn0.refl _ | apply Drawn0.step)⟩
def pidginlaw4_sets.Pure : Prop := ∀ (l0 : List Int), l0.length ≤ maxLen → l0.length * 1 ≤ 140737488351232 → (∀ x ∈ l0, (Lit.int .u8 x).wf = true) → ∃ k, pidginlaw4_sets.f k l0 = some true
theorem pidginlaw4_sets.walk (P : pidginlaw4_sets.Pure) (a0 : Option Addr) (len0 cap0 : Nat) (z0 : List Int) (w : World) (w0 : (a0 = none ∧ len0 = 0 ∧ cap0 = 0 ∧ z0 = []) ∨ ∃ x, a0 = some x ∧ len0 ≤ cap0 ∧ cap0 ≤ maxLen ∧ z0.length = cap0 ∧ (∀ i, i < z0.length → w.cell? (x.add i) = some (.int .u8 (z0.getD i 0))) ∧ ∀ n ∈ z0, (Lit.int .u8 n).wf = true) (y0 : len0 * 1 ≤ 140737488351232) :
    Calls Tryz.prog 15 #[.slice a0 len0 cap0] w fun e w' => e = .returned (.bool true) ∧ Below w.heap.size w w' := by
  obtain ⟨l0, rfl, hr0, hm0, hw0, hc0⟩ := ReadsInt.ofRowC w0
  obtain ⟨k, h⟩ := P l0 hm0 y0 hw0
  refine (pidginlaw4_sets.calls k _ _ l0 true w (Kd.C_of_reads (d := (0 : Int)) (h1 := fun _ => rfl) hr0) hc0 h).mono ?_
  rintro e w' ⟨rfl, hd⟩
  exact ⟨rfl, hd.below⟩
end Go.Proofs.YtjllmamblkejjaaGreatDoor.PQG
end

section
namespace Go.Proofs.YtjllmamblkejjaaGreatDoor.PQT
open Go.RowKit Go.Proofs.YtjllmamblkejjaaGreatDoorW.PrintWords Go.Proofs.YtjllmamblkejjaaGreatDoorW.PrintLast Go.Proofs.YtjllmamblkejjaaGreatDoorW.PrintMore
attribute [local go_sem] max2_int min2_int max_two min_two max_three min_three max_four min_four   
set_option linter.unusedVariables false
set_option linter.unusedSimpArgs false
def errW : Option Int → Value
  | none => .nilIface
  | some c => .iface 0 (.int .i64 c)
theorem errW_none : errW none = .nilIface := rfl
theorem errW_some (c : Int) : errW (some c) = .iface 0 (.int .i64 c) := rfl
end Go.Proofs.YtjllmamblkejjaaGreatDoor.PQT
end

section
namespace Go.Proofs.YtjllmamblkejjaaGreatDoor.PQT
open Go.RowKit Go.Proofs.YtjllmamblkejjaaGreatDoorW.PrintWords Go.Proofs.YtjllmamblkejjaaGreatDoorW.PrintLast Go.Proofs.YtjllmamblkejjaaGreatDoorW.PrintMore
attribute [local go_sem] max2_int min2_int max_two min_two max_three min_three max_four min_four   
set_option linter.unusedVariables false
set_option linter.unusedSimpArgs false
mutual
def pidginref2_Base.j0 : Nat → Int → Int → Bool → Bool → Option (ByteArray)
  | 0, _, _, _, _ => none
  | k + 1, x0, x1, x2, x15 => if x15 = true then (some (⟨#[]⟩ : ByteArray)) else (if x2 = true then (pidginref2_Base.j1 k x0 x1 (⟨#[48, 49, 50, 51, 52, 53, 54, 55, 56, 57, 65, 66, 67, 68, 69, 70]⟩ : ByteArray)) else (pidginref2_Base.j1 k x0 x1 (⟨#[48, 49, 50, 51, 52, 53, 54, 55, 56, 57, 97, 98, 99, 100, 101, 102]⟩ : ByteArray)))
def pidginref2_Base.j1 : Nat → Int → Int → ByteArray → Option (ByteArray)
  | 0, _, _, _ => none
  | k + 1, x0, x1, x7 => if (IntKind.u64.wrap (x1)) = 0 then (none) else (if 0 ≤ (Int.tmod x0 (IntKind.u64.wrap (x1))) then (if (Int.tmod x0 (IntKind.u64.wrap (x1))) ≤ (IntKind.u64.wrap ((Int.tmod x0 (IntKind.u64.wrap (x1))) + 1)) then (if (IntKind.u64.wrap ((Int.tmod x0 (IntKind.u64.wrap (x1))) + 1)) ≤ (x7.size : Int) then (pidginref2_Base.l0 k (IntKind.u64.wrap (Int.tdiv x0 (IntKind.u64.wrap (x1)))) x1 x7 (x7.extract ((Int.tmod x0 (IntKind.u64.wrap (x1))) : Int).toNat ((IntKind.u64.wrap ((Int.tmod x0 (IntKind.u64.wrap (x1))) + 1)) : Int).toNat)) else (none)) else (none)) else (none))
def pidginref2_Base.l0 : Nat → Int → Int → ByteArray → ByteArray → Option (ByteArray)
  | 0, _, _, _, _ => none
  | k + 1, x0, x1, x7, x8 => if x0 > 0 then (if (IntKind.u64.wrap (x1)) = 0 then (none) else (if 0 ≤ (Int.tmod x0 (IntKind.u64.wrap (x1))) then (if (Int.tmod x0 (IntKind.u64.wrap (x1))) ≤ (IntKind.u64.wrap ((Int.tmod x0 (IntKind.u64.wrap (x1))) + 1)) then (if (IntKind.u64.wrap ((Int.tmod x0 (IntKind.u64.wrap (x1))) + 1)) ≤ (x7.size : Int) then (if (x7.extract ((Int.tmod x0 (IntKind.u64.wrap (x1))) : Int).toNat ((IntKind.u64.wrap ((Int.tmod x0 (IntKind.u64.wrap (x1))) + 1)) : Int).toNat).size + x8.size ≤ 9223372036854775807 then (pidginref2_Base.l0 k (IntKind.u64.wrap (Int.tdiv x0 (IntKind.u64.wrap (x1)))) x1 x7 ((x7.extract ((Int.tmod x0 (IntKind.u64.wrap (x1))) : Int).toNat ((IntKind.u64.wrap ((Int.tmod x0 (IntKind.u64.wrap (x1))) + 1)) : Int).toNat) ++ x8)) else (none)) else (none)) else (none)) else (none))) else (some x8)
end
def pidginref2_Base.f (k : Nat) (a0 : Int) (a1 : Int) (a2 : Bool) : Option (ByteArray) := if a1 < 2 then (pidginref2_Base.j0 k a0 a1 a2 true) else (pidginref2_Base.j0 k a0 a1 a2 (decide (a1 > 16)))
theorem pidginref2_Base.mono_l : ∀ k, (∀ y0 y1 y2 y3, LeO (pidginref2_Base.j0 k y0 y1 y2 y3) (pidginref2_Base.j0 (k + 1) y0 y1 y2 y3)) ∧ (∀ y0 y1 y2, LeO (pidginref2_Base.j1 k y0 y1 y2) (pidginref2_Base.j1 (k + 1) y0 y1 y2)) ∧ (∀ y0 y1 y2 y3, LeO (pidginref2_Base.l0 k y0 y1 y2 y3) (pidginref2_Base.l0 (k + 1) y0 y1 y2 y3))
  | 0 => ⟨fun _ _ _ _ r h => by simp [pidginref2_Base.j0] at h, fun _ _ _ r h => by simp [pidginref2_Base.j1] at h, fun _ _ _ _ r h => by simp [pidginref2_Base.l0] at h⟩
  | k + 1 => by
    obtain ⟨ih0, ih1, ih2⟩ := pidginref2_Base.mono_l k
    refine ⟨?_, ?_, ?_⟩
    · intro y0 y1 y2 y3
      unfold pidginref2_Base.j0
      repeat' first
      | (with_reducible exact ih0 _ _ _ _)
      | (with_reducible exact ih1 _ _ _)
      | (with_reducible exact ih2 _ _ _ _)
      | (with_reducible exact LeO.refl _)
      | (with_reducible exact LeO.none _)
      | (with_reducible refine LeO.ite ?_ ?_)
      | (with_reducible refine LeO.bind ?_ (fun _ => ?_))
      | exact ih0 _ _ _ _
      | exact ih1 _ _ _
      | exact ih2 _ _ _ _
      | exact LeO.none _
      | refine LeO.ite ?_ ?_
      | refine LeO.bind ?_ (fun _ => ?_)
    · intro y0 y1 y2
      unfold pidginref2_Base.j1
      repeat' first
      | (with_reducible exact ih0 _ _ _ _)
      | (with_reducible exact ih1 _ _ _)
      | (with_reducible exact ih2 _ _ _ _)
      | (with_reducible exact LeO.refl _)
      | (with_reducible exact LeO.none _)
      | (with_reducible refine LeO.ite ?_ ?_)
      | (with_reducible refine LeO.bind ?_ (fun _ => ?_))
      | exact ih0 _ _ _ _
      | exact ih1 _ _ _
      | exact ih2 _ _ _ _
      | exact LeO.none _
      | refine LeO.ite ?_ ?_
      | refine LeO.bind ?_ (fun _ => ?_)
    · intro y0 y1 y2 y3
      unfold pidginref2_Base.l0
      repeat' first
      | (with_reducible exact ih0 _ _ _ _)
      | (with_reducible exact ih1 _ _ _)
      | (with_reducible exact ih2 _ _ _ _)
      | (with_reducible exact LeO.refl _)
      | (with_reducible exact LeO.none _)
      | (with_reducible refine LeO.ite ?_ ?_)
      | (with_reducible refine LeO.bind ?_ (fun _ => ?_))
      | exact ih0 _ _ _ _
      | exact ih1 _ _ _
      | exact ih2 _ _ _ _
      | exact LeO.none _
      | refine LeO.ite ?_ ?_
      | refine LeO.bind ?_ (fun _ => ?_)
theorem pidginref2_Base.mono : ∀ a0 a1 a2 k, LeO (pidginref2_Base.f k a0 a1 a2) (pidginref2_Base.f (k + 1) a0 a1 a2) := by
  intro a0 a1 a2 k
  obtain ⟨ih0, ih1, ih2⟩ := pidginref2_Base.mono_l k
  unfold pidginref2_Base.f
  repeat' first
      | (with_reducible exact ih0 _ _ _ _)
      | (with_reducible exact ih1 _ _ _)
      | (with_reducible exact ih2 _ _ _ _)
      | (with_reducible exact LeO.refl _)
      | (with_reducible exact LeO.none _)
      | (with_reducible refine LeO.ite ?_ ?_)
      | (with_reducible refine LeO.bind ?_ (fun _ => ?_))
      | exact ih0 _ _ _ _
      | exact ih1 _ _ _
      | exact ih2 _ _ _ _
      | exact LeO.none _
      | refine LeO.ite ?_ ?_
      | refine LeO.bind ?_ (fun _ => ?_)
set_option maxHeartbeats 8000000 in
set_option maxRecDepth 100000 in
theorem pidginref2_Base.calls (k : Nat) (a0 : Int) (a1 : Int) (a2 : Bool) (r : ByteArray) (w : World) (h : pidginref2_Base.f k a0 a1 a2 = some r) :
    Calls Tryz.prog 44 #[.int .u64 a0, .int .i64 a1, .bool a2] w fun e w' => e = .returned (.string r) ∧ Drawn0 w w' := by
  have H : (if a1 < 2 then (pidginref2_Base.j0 k a0 a1 a2 true) else (pidginref2_Base.j0 k a0 a1 a2 (decide (a1 > 16)))) = some r := h
  clear h
  have HC4 := Aside0.mk H
  clear H
  go_enter Tryz.func44, Tryz.ntmps44
  go_upto_region 1 with (fail)
  repeat (go_quiet (fail); go_upto_region 1 with (fail))
  go_cut [15] (fun v15 wc => ∃ (kq : Nat) (x15_3 : Bool), v15 = .bool x15_3 ∧ Aside0 (pidginref2_Base.j0 kq a0 a1 a2 x15_3 = some r) ∧ Aside0 (kq ≤ k) ∧ Drawn0 w wc)
  case first =>
    have H := HC4.out
    clear HC4
    by_cases c5 : a1 < 2
    · rw [if_pos c5] at H
      have c5b0 : decide (a1 < 2) = true := decide_eq_true c5
      clear c5
      (first | rw [c5b0] | (simp only [i64_w, i32_w]; rw [c5b0]) | skip)
      have H' := Aside0.mk H
      clear H
      go_wp2
      repeat (go_quiet (fail); try go_wp2)
      go_meet
      case rel => exact ⟨_, (true), (by first | rfl | (simp; done) | (simp [*]; done)), H', ⟨by first | omega | exact Nat.le_refl _⟩, by repeat (first | exact Drawn0.refl _ | apply Drawn0.step)⟩
    · rw [if_neg c5] at H
      have c5b0 : decide (a1 < 2) = false := decide_eq_false c5
      clear c5
      (first | rw [c5b0] | (simp only [i64_w, i32_w]; rw [c5b0]) | skip)
      have H' := Aside0.mk H
      clear H
      go_wp2
      repeat (go_quiet (fail); try go_wp2)
      go_meet
      case rel => exact ⟨_, (decide (a1 > 16)), (by first | rfl | (simp; done) | (simp [*]; done)), H', ⟨by first | omega | exact Nat.le_refl _⟩, by repeat (first | exact Drawn0.refl _ | apply Drawn0.step)⟩
  case rest =>
    clear HC4
    try clear p2
    try clear c4
    try clear c5
    try clear c5b0
    obtain ⟨kq, x15_3, rfl, HA, HJ3, ⟨mc3, rfl⟩⟩ := hcut
    cases kq with
    | zero => exact absurd HA.out (by simp [pidginref2_Base.j0])
    | succ kj3 =>
      have H := HA.out
      clear HA
      simp only [pidginref2_Base.j0] at H
      by_cases c6 : x15_3 = true
      · subst c6
        have H1 : (some (⟨#[]⟩ : ByteArray)) = some r := by rw [if_pos rfl] at H; exact H
        clear H
        have H := H1
        clear H1
        obtain rfl := Option.some.inj H
        go_wp2
        repeat (go_quiet (fail); try go_wp2)
        go_ret
        exact ⟨by first | rfl | (simp; done) | (simp [*]; done), by repeat (first | exact Drawn0.refl _ | apply Drawn0.step)⟩
      · replace c6 := Bool.eq_false_iff.mpr c6
        subst c6
        have H1 : (if a2 = true then (pidginref2_Base.j1 kj3 a0 a1 (⟨#[48, 49, 50, 51, 52, 53, 54, 55, 56, 57, 65, 66, 67, 68, 69, 70]⟩ : ByteArray)) else (pidginref2_Base.j1 kj3 a0 a1 (⟨#[48, 49, 50, 51, 52, 53, 54, 55, 56, 57, 97, 98, 99, 100, 101, 102]⟩ : ByteArray))) = some r := by rw [if_neg (show ¬ (false = true) by decide)] at H; exact H
        clear H
        have H := H1
        clear H1
        have HC7 := Aside0.mk H
        clear H
        go_upto_if 16 with (fail)
        repeat (go_quiet (fail); go_upto_if 16 with (fail))
        go_cut [7] (fun v7 wc => ∃ (kq : Nat) (x7_6 : ByteArray), v7 = .string x7_6 ∧ Aside0 (pidginref2_Base.j1 kq a0 a1 x7_6 = some r) ∧ Aside0 (kq ≤ kj3) ∧ Drawn0 w wc)
        case first =>
          have H := HC7.out
          clear HC7
          by_cases c8 : a2 = true
          · subst c8
            have H1 : (pidginref2_Base.j1 kj3 a0 a1 (⟨#[48, 49, 50, 51, 52, 53, 54, 55, 56, 57, 65, 66, 67, 68, 69, 70]⟩ : ByteArray)) = some r := by rw [if_pos rfl] at H; exact H
            clear H
            have H := H1
            clear H1
            have H' := Aside0.mk H
            clear H
            go_wp2
            repeat (go_quiet (fail); try go_wp2)
            go_meet
            case rel => exact ⟨_, ((⟨#[48, 49, 50, 51, 52, 53, 54, 55, 56, 57, 65, 66, 67, 68, 69, 70]⟩ : ByteArray)), (by first | rfl | (simp; done) | (simp [*]; done)), H', ⟨by have := HJ3.out; first | omega | exact Nat.le_refl _⟩, by repeat (first | exact Drawn0.refl _ | apply Drawn0.step)⟩
          · replace c8 := Bool.eq_false_iff.mpr c8
            subst c8
            have H1 : (pidginref2_Base.j1 kj3 a0 a1 (⟨#[48, 49, 50, 51, 52, 53, 54, 55, 56, 57, 97, 98, 99, 100, 101, 102]⟩ : ByteArray)) = some r := by rw [if_neg (show ¬ (false = true) by decide)] at H; exact H
            clear H
            have H := H1
            clear H1
            have H' := Aside0.mk H
            clear H
            go_wp2
            repeat (go_quiet (fail); try go_wp2)
            go_meet
            case rel => exact ⟨_, ((⟨#[48, 49, 50, 51, 52, 53, 54, 55, 56, 57, 97, 98, 99, 100, 101, 102]⟩ : ByteArray)), (by first | rfl | (simp; done) | (simp [*]; done)), H', ⟨by have := HJ3.out; first | omega | exact Nat.le_refl _⟩, by repeat (first | exact Drawn0.refl _ | apply Drawn0.step)⟩
        case rest =>
          clear HC7
          try clear p2
          try clear c3
          try clear c4
          try clear c5
          try clear c5b0
          try clear c6
          try clear c8
          try clear p2
          obtain ⟨kq, x7_6, rfl, HA, HJ6, ⟨mc6, rfl⟩⟩ := hcut
          cases kq with
          | zero => exact absurd HA.out (by simp [pidginref2_Base.j1])
          | succ kj6 =>
            have H := HA.out
            clear HA
            simp only [pidginref2_Base.j1] at H
            by_cases c9 : (IntKind.u64.wrap (a1)) = 0
            · rw [if_pos c9] at H
              exact absurd H (by simp)
            · rw [if_neg c9] at H
              have c9b0 : ((IntKind.u64.wrap (a1)) == 0) = false := beq_eq_false_iff_ne.mpr c9
              have c9b1 : ((IntKind.u64.wrap (a1)) != 0) = true := bne_iff_ne.mpr c9
              obtain ⟨ji10, hji10⟩ : ∃ j_ : Int, (Int.tmod a0 (IntKind.u64.wrap (a1))) = j_ := ⟨_, rfl⟩
              replace H : (if 0 ≤ (ji10) then (if (ji10) ≤ (IntKind.u64.wrap ((ji10) + 1)) then (if (IntKind.u64.wrap ((ji10) + 1)) ≤ (x7_6.size : Int) then (pidginref2_Base.l0 kj6 (IntKind.u64.wrap (Int.tdiv a0 (IntKind.u64.wrap (a1)))) a1 x7_6 (x7_6.extract ((ji10) : Int).toNat ((IntKind.u64.wrap ((ji10) + 1)) : Int).toNat)) else (none)) else (none)) else (none)) = some r := by first | (rw [hji10] at H; exact H) | (simp only [hji10] at H ⊢; exact H)
              by_cases c11 : 0 ≤ (ji10)
              · rw [if_pos c11] at H
                have c11b0 := eq_true c11
                have c11b1 : decide (0 ≤ (ji10)) = true := decide_eq_true c11
                clear c11
                by_cases c12 : (ji10) ≤ (IntKind.u64.wrap ((ji10) + 1))
                · rw [if_pos c12] at H
                  have c12b0 := eq_true c12
                  have c12b1 : decide ((ji10) ≤ (IntKind.u64.wrap ((ji10) + 1))) = true := decide_eq_true c12
                  by_cases c13 : (IntKind.u64.wrap ((ji10) + 1)) ≤ (x7_6.size : Int)
                  · rw [if_pos c13] at H
                    have c13b0 := eq_true c13
                    have c13b1 : decide ((IntKind.u64.wrap ((ji10) + 1)) ≤ (x7_6.size : Int)) = true := decide_eq_true c13
                    have H' := Aside0.mk H
                    clear H
                    go_wp2
                    repeat (go_quiet (fail); try go_wp2)
                    go_loopg [0, 8] kj6 (fun kq v0 v8 w' => ∃ (x0_3 : Int) (x8_3 : ByteArray), v0 = .int .u64 x0_3 ∧ v8 = .string x8_3 ∧ Aside0 (pidginref2_Base.l0 kq x0_3 a1 x7_6 x8_3 = some r) ∧ Aside0 (kq ≤ kj6) ∧ Drawn0 w w')
                    case atStart => exact ⟨(IntKind.u64.wrap (Int.tdiv a0 (IntKind.u64.wrap (a1)))), (x7_6.extract ((ji10) : Int).toNat ((IntKind.u64.wrap ((ji10) + 1)) : Int).toNat), (by first | rfl | (simp; done) | (simp [*]; done)), (by first | rfl | (simp; done) | (simp only [← hji10] <;> (first | rfl | simp)) | (simp [*]; done)), H', ⟨Nat.le_refl _⟩, by repeat (first | exact Drawn0.refl _ | apply Drawn0.step)⟩
                    case round =>
                      clear H'
                      try clear c1
                      try clear p2
                      try clear c3
                      try clear c4
                      try clear c5
                      try clear c5b0
                      try clear c6
                      try clear c8
                      try clear c9
                      try clear c9b0
                      try clear c9b1
                      try clear c11
                      try clear c11b0
                      try clear c11b1
                      try clear c12
                      try clear c12b0
                      try clear c12b1
                      try clear c13
                      try clear c13b0
                      try clear c13b1
                      try clear p2
                      obtain ⟨x0_3, x8_3, rfl, rfl, HA, HK3, ⟨m3, rfl⟩⟩ := hrel
                      cases gk with
                      | zero => exact absurd HA.out (by simp [pidginref2_Base.l0])
                      | succ k3 =>
                        have H := HA.out
                        clear HA
                        simp only [pidginref2_Base.l0] at H
                        by_cases c14 : x0_3 > 0
                        · rw [if_pos c14] at H
                          have c14b0 : decide (0 < x0_3) = true := decide_eq_true c14
                          clear c14
                          by_cases c15 : (IntKind.u64.wrap (a1)) = 0
                          · rw [if_pos c15] at H
                            exact absurd H (by simp)
                          · rw [if_neg c15] at H
                            have c15b0 : ((IntKind.u64.wrap (a1)) == 0) = false := beq_eq_false_iff_ne.mpr c15
                            have c15b1 : ((IntKind.u64.wrap (a1)) != 0) = true := bne_iff_ne.mpr c15
                            obtain ⟨ji16, hji16⟩ : ∃ j_ : Int, (Int.tmod x0_3 (IntKind.u64.wrap (a1))) = j_ := ⟨_, rfl⟩
                            replace H : (if 0 ≤ (ji16) then (if (ji16) ≤ (IntKind.u64.wrap ((ji16) + 1)) then (if (IntKind.u64.wrap ((ji16) + 1)) ≤ (x7_6.size : Int) then (if (x7_6.extract ((ji16) : Int).toNat ((IntKind.u64.wrap ((ji16) + 1)) : Int).toNat).size + x8_3.size ≤ 9223372036854775807 then (pidginref2_Base.l0 k3 (IntKind.u64.wrap (Int.tdiv x0_3 (IntKind.u64.wrap (a1)))) a1 x7_6 ((x7_6.extract ((ji16) : Int).toNat ((IntKind.u64.wrap ((ji16) + 1)) : Int).toNat) ++ x8_3)) else (none)) else (none)) else (none)) else (none)) = some r := by first | (rw [hji16] at H; exact H) | (simp only [hji16] at H ⊢; exact H)
                            by_cases c17 : 0 ≤ (ji16)
                            · rw [if_pos c17] at H
                              have c17b0 := eq_true c17
                              have c17b1 : decide (0 ≤ (ji16)) = true := decide_eq_true c17
                              clear c17
                              by_cases c18 : (ji16) ≤ (IntKind.u64.wrap ((ji16) + 1))
                              · rw [if_pos c18] at H
                                have c18b0 := eq_true c18
                                have c18b1 : decide ((ji16) ≤ (IntKind.u64.wrap ((ji16) + 1))) = true := decide_eq_true c18
                                by_cases c19 : (IntKind.u64.wrap ((ji16) + 1)) ≤ (x7_6.size : Int)
                                · rw [if_pos c19] at H
                                  have c19b0 := eq_true c19
                                  have c19b1 : decide ((IntKind.u64.wrap ((ji16) + 1)) ≤ (x7_6.size : Int)) = true := decide_eq_true c19
                                  by_cases c20 : (x7_6.extract ((ji16) : Int).toNat ((IntKind.u64.wrap ((ji16) + 1)) : Int).toNat).size + x8_3.size ≤ 9223372036854775807
                                  · rw [if_pos c20] at H
                                    have c20b0 := eq_true c20
                                    have c20b1 : decide ((x7_6.extract ((ji16) : Int).toNat ((IntKind.u64.wrap ((ji16) + 1)) : Int).toNat).size + x8_3.size ≤ 9223372036854775807) = true := decide_eq_true c20
                                    try have c20b2 : (9223372036854775807 < (x7_6.extract ((ji16) : Int).toNat ((IntKind.u64.wrap ((ji16) + 1)) : Int).toNat).size + x8_3.size) = False := eq_false (Nat.not_lt.2 c20)
                                    have H' := Aside0.mk H
                                    clear H
                                    go_wp2
                                    repeat (go_quiet (fail); try go_wp2)
                                    go_roundg k3
                                    case measure => have := HJ3.out; have := HJ6.out; have := HK3.out; omega
                                    case rel => exact ⟨(IntKind.u64.wrap (Int.tdiv x0_3 (IntKind.u64.wrap (a1)))), ((x7_6.extract ((ji16) : Int).toNat ((IntKind.u64.wrap ((ji16) + 1)) : Int).toNat) ++ x8_3), (by first | rfl | (simp; done) | (simp [*]; done)), (by first | rfl | (simp; done) | (simp only [← hji16] <;> (first | rfl | simp)) | (simp [*]; done)), H', ⟨by have := HJ3.out; have := HJ6.out; have := HK3.out; omega⟩, by repeat (first | exact Drawn0.refl _ | apply Drawn0.step)⟩
                                  · rw [if_neg c20] at H
                                    exact absurd H (by simp)
                                · rw [if_neg c19] at H
                                  exact absurd H (by simp)
                              · rw [if_neg c18] at H
                                exact absurd H (by simp)
                            · rw [if_neg c17] at H
                              exact absurd H (by simp)
                        · rw [if_neg c14] at H
                          have c14b0 : decide (0 < x0_3) = false := decide_eq_false c14
                          clear c14
                          obtain rfl := Option.some.inj H
                          go_wp2
                          repeat (go_quiet (fail); try go_wp2)
                          go_ret
                          exact ⟨by first | rfl | (simp; done) | (simp only [← hji10] <;> (first | rfl | simp)) | (simp [*]; done), by repeat (first | exact Drawn0.refl _ | apply Drawn0.step)⟩
                  · rw [if_neg c13] at H
                    exact absurd H (by simp)
                · rw [if_neg c12] at H
                  exact absurd H (by simp)
              · rw [if_neg c11] at H
                exact absurd H (by simp)
def pidginref2_Text.f (k : Nat) (a0 : Int) : Option (ByteArray) := if a0 < 0 then ((pidginref2_Base.f k (IntKind.u64.wrap ((IntKind.u64.wrap (wrap64 (-(wrap64 (a0 + 1))))) + 1)) 10 false).bind fun t101 => (if 1 + t101.size ≤ 9223372036854775807 then (some ((⟨#[45]⟩ : ByteArray) ++ t101)) else (none))) else ((pidginref2_Base.f k (IntKind.u64.wrap (a0)) 10 false).bind fun t102 => (some t102))
theorem pidginref2_Text.mono : ∀ a0 k, LeO (pidginref2_Text.f k a0) (pidginref2_Text.f (k + 1) a0) := by
  intro a0 k
  unfold pidginref2_Text.f
  repeat' first
      | (with_reducible exact pidginref2_Base.mono _ _ _ _)
      | (with_reducible exact LeO.refl _)
      | (with_reducible exact LeO.none _)
      | (with_reducible refine LeO.ite ?_ ?_)
      | (with_reducible refine LeO.bind ?_ (fun _ => ?_))
      | exact pidginref2_Base.mono _ _ _ _
      | exact LeO.none _
      | refine LeO.ite ?_ ?_
      | refine LeO.bind ?_ (fun _ => ?_)
set_option maxHeartbeats 8000000 in
set_option maxRecDepth 100000 in
theorem pidginref2_Text.calls (k : Nat) (a0 : Int) (r : ByteArray) (w : World) (h : pidginref2_Text.f k a0 = some r) :
    Calls Tryz.prog 20 #[.int .i64 a0] w fun e w' => e = .returned (.string r) ∧ Drawn0 w w' := by
  have H : (if a0 < 0 then ((pidginref2_Base.f k (IntKind.u64.wrap ((IntKind.u64.wrap (wrap64 (-(wrap64 (a0 + 1))))) + 1)) 10 false).bind fun t101 => (if 1 + t101.size ≤ 9223372036854775807 then (some ((⟨#[45]⟩ : ByteArray) ++ t101)) else (none))) else ((pidginref2_Base.f k (IntKind.u64.wrap (a0)) 10 false).bind fun t102 => (some t102))) = some r := h
  clear h
  by_cases c2 : a0 < 0
  · rw [if_pos c2] at H
    have c2b0 : decide (a0 < 0) = true := decide_eq_true c2
    clear c2
    replace H := Option.bind_eq_some_iff.mp H
    obtain ⟨t101, A30, H⟩ := H
    replace H : (if 1 + t101.size ≤ 9223372036854775807 then (some ((⟨#[45]⟩ : ByteArray) ++ t101)) else (none)) = some r := H
    have A3 := Aside0.mk A30
    clear A30
    by_cases c4 : 1 + t101.size ≤ 9223372036854775807
    · rw [if_pos c4] at H
      have c4b0 := eq_true c4
      have c4b1 : decide (1 + t101.size ≤ 9223372036854775807) = true := decide_eq_true c4
      try have c4b2 : (9223372036854775807 < 1 + t101.size) = False := eq_false (Nat.not_lt.2 c4)
      obtain rfl := Option.some.inj H
      go_enter Tryz.func20, Tryz.ntmps20
      go_wp2_with (first | ((with_reducible refine gate_callee (f := 44) rfl ?_); refine goesL_ (some 10) rfl rfl Tryz.func44 (by kernel_rfl) rfl #[.int .u64 (IntKind.u64.wrap ((IntKind.u64.wrap (wrap64 (-(wrap64 (a0 + 1))))) + 1)), .int .i64 10, .bool false] rfl (by (try simp only [List.map_toArray, List.map_cons, List.map_nil]); first | done | rfl | (simp only [List.length_drop, List.length_take]; rfl)) ?_; (with_reducible refine (pidginref2_Base.calls k (IntKind.u64.wrap ((IntKind.u64.wrap (wrap64 (-(wrap64 (a0 + 1))))) + 1)) 10 false t101 _ A3.out).mono ?_); rintro e w' ⟨rfl, ⟨nd, rfl⟩⟩; refine ⟨_, rfl, ?_⟩))
      go_ret
      exact ⟨by first | rfl | (simp; done) | (simp [*]; done), by repeat (first | exact Drawn0.refl _ | apply Drawn0.step)⟩
    · rw [if_neg c4] at H
      exact absurd H (by simp)
  · rw [if_neg c2] at H
    have c2b0 : decide (a0 < 0) = false := decide_eq_false c2
    clear c2
    replace H := Option.bind_eq_some_iff.mp H
    obtain ⟨t102, A50, H⟩ := H
    replace H : (some t102) = some r := H
    have A5 := Aside0.mk A50
    clear A50
    obtain rfl := Option.some.inj H
    go_enter Tryz.func20, Tryz.ntmps20
    go_wp2_with (first | ((with_reducible refine gate_callee (f := 44) rfl ?_); refine goesL_ (some 14) rfl rfl Tryz.func44 (by kernel_rfl) rfl #[.int .u64 (IntKind.u64.wrap (a0)), .int .i64 10, .bool false] rfl (by (try simp only [List.map_toArray, List.map_cons, List.map_nil]); first | done | rfl | (simp only [List.length_drop, List.length_take]; rfl)) ?_; (with_reducible refine (pidginref2_Base.calls k (IntKind.u64.wrap (a0)) 10 false t102 _ A5.out).mono ?_); rintro e w' ⟨rfl, ⟨nd, rfl⟩⟩; refine ⟨_, rfl, ?_⟩))
    go_ret
    exact ⟨by first | rfl | (simp; done) | (simp [*]; done), by repeat (first | exact Drawn0.refl _ | apply Drawn0.step)⟩
end Go.Proofs.YtjllmamblkejjaaGreatDoor.PQT
end
