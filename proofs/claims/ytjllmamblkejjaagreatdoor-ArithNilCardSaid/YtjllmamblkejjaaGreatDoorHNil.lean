/- A part of the proof: texts of ours, joined by a program, each in a section of its own; what each proves, and under what conditions, stands ahead of it. -/
import Derived.Test.YtjllmamblkejjaaGreatDoorG04
import Derived.Laws.StructEq
import Derived.Test.YtjllmamblkejjaaGreatDoorCards
import Derived.Test.YtjllmamblkejjaaGreatDoorTie
import Derived.SevenTiedAt

/- pidginlaw4.ArithNil: the walk. No conditions. -/
section
set_option linter.unusedVariables false
set_option linter.unusedSimpArgs false
namespace Go.Proofs.YtjllmamblkejjaaGreatDoor
open Go.RowKit Go.Proofs.YtjllmamblkejjaaGreatDoorW.PrintWords Go.Proofs.YtjllmamblkejjaaGreatDoorW.PrintLast Go.Proofs.YtjllmamblkejjaaGreatDoorW.PrintMore
open PQA PQB Sp

set_option maxHeartbeats 4000000 in
theorem steps_nil (pv : Value) (w : World) : Calls Tryz.prog 25 #[.pointer none, pv] w fun e w' => e = .returned (.int .i64 0) ∧ w = w' := by
  go_enter Tryz.func25, Tryz.ntmps25
  go_wp2_with fail
  go_ret
  exact ⟨rfl, rfl⟩
set_option maxHeartbeats 4000000 in
theorem list_nil (w : World) : Calls Tryz.prog 14 #[.pointer none] w fun e w' => e = .returned (.slice none 0 0) ∧ w = w' := by
  go_enter Tryz.func14, Tryz.ntmps14
  go_wp2_with fail
  go_ret
  exact ⟨rfl, rfl⟩
set_option maxHeartbeats 4000000 in
theorem get_nil_any (s : ByteArray) (w : World) : Calls Tryz.prog 23 #[.pointer none, .string s] w fun e w' => e = .returned (.tuple #[.string ⟨#[]⟩, .bool false]) ∧ w = w' := by
  go_enter Tryz.func23, Tryz.ntmps23
  go_wp2_with fail
  go_ret2
  exact ⟨rfl, rfl⟩
theorem set_nil_any (s t : ByteArray) (w : World) : Calls Tryz.prog 27 #[.pointer none, .string s, .string t] w fun e w' => e = .returned (.bool false) ∧ w = w' := by
  go_enter Tryz.func27, Tryz.ntmps27
  go_wp2_with fail
  go_ret
  exact ⟨rfl, rfl⟩
theorem nil_at (w : World) : VarsAt w (.pointer none) [] := .inl ⟨rfl, rfl⟩
def nilB : Bs := [120, 32, 61, 32, 52]
theorem nil_parsed : parsed nilB = .ok (.asg [61] [120] 0 2 (.num 4 4)) ⟨[], 5, 5, 0, false, []⟩ := by kernel_rfl
theorem nil_ev : ev (mach []) (.asg [61] [120] 0 2 (.num 4 4)) [] = .ok 4 (mset [120] (text 4) []) := by
  rw [ev, if_pos rfl]; rfl
set_option maxHeartbeats 4000000 in
set_option maxRecDepth 100000 in
theorem arithNil_calls (E : Nat → Addr) (w : World) (hE : Env E w) : Calls Tryz.prog 5 #[] w fun e w' => e = .returned (.bool true) ∧ Below w.heap.size w w' := by
  have kc := fun (w : World) (C : Array Value) (n c : Nat) => Lib.run_convert_bytes_const (P := Tryz.prog) w 22 5 C n c Tryz.underlying22 Tryz.underlying5
  have HE := Aside0.mk hE
  clear hE
  go_enter Tryz.func5, Tryz.ntmps5
  go_wp2_with fail
  with_reducible refine (new_calls _).mono ?_
  rintro e w1 ⟨g, bv, rfl, hv, hg, hbv, hb⟩
  have HB := Aside0.mk hb
  clear hv hg hbv hb
  go_wp2_with fail
  with_reducible refine (run_nil E _ _ (HE.out.below HB.out)).mono ?_
  rintro e w2 ⟨v, rfl, hev, hb2⟩
  have HB2 := Aside0.mk (below_then HB.out HB.out.size hb2)
  have HEV := Aside0.mk hev
  clear hev hb2
  go_wp2_with fail
  have HR : Aside0 (Rb (w2.alloc (.cells #[.int .u8 120, .int .u8 32, .int .u8 61, .int .u8 32, .int .u8 52] 5 (5, 6))) (some ⟨w2.heap.size, 0, none⟩) nilB) := ⟨rb_lit (by decide) (heap_new (w := w2) (W := w2) rfl _)⟩
  with_reducible refine (eval_at E nilB (some ⟨w2.heap.size, 0, none⟩) 5 _ (by decide) (.pointer none) [] _ (HE.out.below (below_alloc HB2.out _)) HR.out (by decide) (nil_at _) (by simp)).mono ?_
  rintro e w3 hp
  rw [nil_parsed] at hp
  obtain ⟨rfl, hb3⟩ := hp.nil nil_ev
  have HB3 := Aside0.mk (below_then (below_alloc HB2.out _) (by have := HB2.out.size; simp; omega) hb3)
  have HEV3 := Aside0.mk (HEV.out.below (below_then (below_alloc (Below.refl _ _) _) (by simp) hb3))
  clear hb3 hp kc
  go_wp2_with fail
  with_reducible refine (get_nil_any _ _).mono ?_
  rintro e w4 ⟨rfl, rfl⟩
  go_wp2_with fail
  with_reducible refine (tell_calls E _ (HE.out.below HB3.out) v 1 0 1 HEV3.out (by omega) (by omega)).mono ?_
  rintro e w4 ⟨rfl, hb4⟩
  have HB4 := Aside0.mk (below_then HB3.out HB3.out.size hb4)
  clear hb4
  go_wp2_with fail
  with_reducible refine (len_nil _).mono ?_
  rintro e w5 ⟨rfl, rfl⟩
  go_wp2_with fail
  with_reducible refine (steps_nil _ _).mono ?_
  rintro e w5 ⟨rfl, rfl⟩
  go_wp2_with fail
  with_reducible refine (compile_nil _).mono ?_
  rintro e w5 ⟨rfl, rfl⟩
  go_wp2_with fail
  with_reducible refine (set_nil_any _ _ _).mono ?_
  rintro e w5 ⟨rfl, rfl⟩
  go_wp2_with fail
  with_reducible refine (list_nil _).mono ?_
  rintro e w5 ⟨rfl, rfl⟩
  go_wp2_with fail
  with_reducible refine (awake_calls E _ (HE.out.below HB4.out)).mono ?_
  rintro e w5 ⟨rfl, hb5⟩
  have HB5 := Aside0.mk (below_then HB4.out HB4.out.size hb5)
  clear hb5
  go_wp2_with fail
  go_ret
  exact ⟨rfl, HB5.out⟩
end Go.Proofs.YtjllmamblkejjaaGreatDoor
end

/- ArithNil always answers true: the row's statement, and its card. No conditions. -/
section
set_option linter.unusedVariables false
set_option linter.unusedSimpArgs false
namespace Go.Proofs.YtjllmamblkejjaaGreatDoor
open Go.ChangeShapes Go.WideShapes Go.ChangeAt Go.RowKit

set_option maxRecDepth 100000 in
theorem arithNil_lifted (os : Os) (started : os.Started) (H : Type) (enc : TypeId × Value → H) :
    ReturnsInHanded {} Tryz.checked os 5 .any (fun w args => (Rows.arithNilSpec.pre enc Tryz.prog Tryz.f5 [] false w args ∧ laidMetH Tryz.prog lay w) ∧ sizedMet enc Tryz.prog Tryz.f5 (OpenSpec.ofChange Rows.arithNilSpec) false w args)
      (Rows.arithNilSpec.post enc Tryz.prog Tryz.f5 false true false false) := by
  refine returnsInHanded_of_change_and (C := Tryz.checked) (X := fun w _ => laidMetH Tryz.prog lay w) (fun _ _ _ hh h => lay_heap hh h) Tryz.ownK started (by kernel_rfl) Tryz.func5
    (ChangeSpec.witness_shaped (enc := enc) (C := Tryz.checked) (os := os) (X := fun w _ => laidMetH Tryz.prog lay w) false (World.doorLaid Tryz.prog 439 os) #[] 8 rfl (door_shaped os _) (by kernel_rfl) (by kernel_rfl) (by kernel_rfl) (door_met os _)) ?_
  intro W base args ds gs before hval0 hW _ _ hL _
  have hW' := hW
  obtain ⟨p, q, hA0, hV, rfl, hfz, hnd⟩ := hW
  have hA : DataW.TrodAll enc Tryz.prog W 0 (fun _ => true) true Tryz.f5.params.toList args.toList ds p := hA0
  rw [Tryz.params5] at hA
  obtain ⟨ha, rfl, rfl⟩ := trodAll_nil hA
  obtain rfl : args = #[] := by cases args; simpa using ha
  obtain ⟨rfl, rfl⟩ := trodVars_none hV
  obtain ⟨E, hE⟩ := env_of_laid hL
  clear hA0 hval0
  simp only [List.append_nil] at hW'
  refine (arithNil_calls E W hE).mono fun e W' ⟨he, hb⟩ => ?_
  subst he
  exact ⟨_, rfl, _, _, _, [], [], [], hW', trodAll_mk1 (shut_bool Tryz.underlying4 true), trodAll_mk0, rfl, hb.frame _, fun h => by cases h⟩

theorem arithNil_said : Rows.ArithNilSaid :=
  OpenClaim.holds_of_wide 5 Tryz.f5 rfl rfl rfl rfl rfl rfl rfl ⟨rfl, rfl, rfl, rfl, rfl⟩ rfl rfl rfl rfl rfl (by kernel_rfl) Tryz.func5 (by kernel_rfl)
    (of_decide_eq_true (by kernel_rfl)) (by unfold Func.isWrapper; first | (rw [if_pos (by decide +kernel)]; kernel_rfl) | (rw [if_neg (by decide +kernel)]; exact ⟨rfl, rfl⟩))
    (fun os started H enc _ => arithNil_lifted os started H enc)

theorem arithNil_card : Rows.ArithNilCardSaid :=
  Claim7.holds_tied_plain_at .later [] [.handle, .listed, .data, .sentinel, .sentinel, .sentinel, .sentinel, .sentinel, .sentinel, .sentinel, .sentinel, .sentinel, .sentinel, .sentinel, .sentinel, .sentinel, .sentinel, .sentinel, .sentinel, .sentinel, .sentinel, .sentinel, .sentinel, .sentinel] true (true, "30e0b9793e9bc71d1783dff3583ad4ed1c026c8d6159c2d4c2251d60be95b170") true
    arithNil_said (fun _ h => by cases h) (by kernel_rfl) (fun _ h => by cases h) arithNil_row_tie rfl ⟨rfl, rfl⟩ (by kernel_rfl) rfl
    (fun f fn hf hfn => by
      obtain rfl : f = 5 := Option.some.inj ((show Tryz.prog.funcNamed "pidgin/pidginlaw4.ArithNil" = some 5 by kernel_rfl).symm.trans hf) |>.symm
      obtain rfl : fn = Tryz.f5 := (Option.some.inj (Tryz.func5.symm.trans hfn)).symm
      exact ⟨by kernel_rfl, fun j t ht => by
        rw [Tryz.params5] at ht
        simp at ht⟩)
    (by kernel_rfl)
end Go.Proofs.YtjllmamblkejjaaGreatDoor
end
