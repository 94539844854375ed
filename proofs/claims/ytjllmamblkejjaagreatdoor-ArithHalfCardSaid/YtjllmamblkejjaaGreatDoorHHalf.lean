/- ArithHalf always answers true: the row's statement, and its card. No conditions. -/
import Derived.Test.YtjllmamblkejjaaGreatDoorD
import Derived.Test.YtjllmamblkejjaaGreatDoorCards
import Derived.Test.YtjllmamblkejjaaGreatDoorTie
import Derived.SevenTiedAt
import Derived.Carry
import Derived.ChangeOld

section
set_option linter.unusedVariables false
set_option linter.unusedSimpArgs false
namespace Go.Proofs.YtjllmamblkejjaaGreatDoor
open Go.ChangeShapes Go.WideShapes Go.ChangeAt Go.RowKit Sp

set_option maxRecDepth 100000 in
theorem arithHalf_lifted (os : Os) (started : os.Started) (H : Type) (enc : TypeId × Value → H) :
    ReturnsInHanded {} Tryz.checked os 3 .any (fun w args => (Rows.arithHalfSpec.pre enc Tryz.prog Tryz.f3 [] false w args ∧ laidMetH Tryz.prog lay w) ∧ sizedMet enc Tryz.prog Tryz.f3 (OpenSpec.ofChange Rows.arithHalfSpec) false w args)
      (Rows.arithHalfSpec.post enc Tryz.prog Tryz.f3 false true false false) := by
  refine returnsInHanded_of_change_and (C := Tryz.checked) (X := fun w _ => laidMetH Tryz.prog lay w) (fun _ _ _ hh h => lay_heap hh h) Tryz.ownK started (by kernel_rfl) Tryz.func3
    (ChangeSpec.witness_shaped (enc := enc) (C := Tryz.checked) (os := os) (X := fun w _ => laidMetH Tryz.prog lay w) false (World.doorLaid Tryz.prog 439 os) #[.slice none 0 0, .string ⟨#[]⟩] 8 rfl (door_shaped os _) (by kernel_rfl) (by kernel_rfl) (by kernel_rfl) (door_met os _)) ?_
  intro W base args ds gs before hval0 hW _ hsz hL _
  have hval : ∀ (j : Nat) t v, Tryz.f3.params[j]? = some t → args[j]? = some v → Value.okWide Tryz.prog W .any base t v := hval0
  have hW' := hW
  obtain ⟨p, q, hA0, hV, rfl, hfz, hnd⟩ := hW
  have hA : DataW.TrodAll enc Tryz.prog W 0 (fun _ => true) true Tryz.f3.params.toList args.toList ds p := hA0
  have hlt : ∀ x ∈ p ++ q, x.block < W.heap.size := hW'.lt
  rw [Tryz.params3] at hA hval
  obtain ⟨rfl, rfl⟩ := trodVars_none hV
  have hA' := hA
  obtain ⟨v0, v1, d0, d1, p0, p1, rfl, rfl, rfl, h0, h1⟩ := trodAll_two hA
  obtain ⟨A, b, c, rfl, hr, hc⟩ := open_text (hval 0 22 v0 rfl rfl) h0
  obtain ⟨s, rfl, rfl, rfl, hs⟩ := Go.ChangeMaps.open_string Tryz.underlying9 (hval 1 9 v1 rfl rfl) h1
  have hxl : s.data.toList.length ≤ 140737488355328 := by
    have h2 : (DataW.weightsEach Tryz.prog [22, 9] [d0, .lit (.string s.data.toList)]).all (· ≤ reachBytes) = true := hsz
    simp only [DataW.weightsEach, DataW.weights, List.all_append, List.all_cons, List.all_nil, Bool.and_eq_true, decide_eq_true_eq, Bool.and_true] at h2
    have := h2.2
    unfold reachBytes at this
    omega
  obtain ⟨E, hE⟩ := env_of_laid hL
  clear hA0 hval0 hsz
  simp only [List.append_nil] at hW' hlt hA'
  have he := arithHalf_calls E b A c s.data.toList W hE hr hc hxl
  rw [← mk_of s] at he
  refine he.mono fun e W' ⟨he, hb⟩ => ?_
  subst he
  have hback := trodAll_behind Tryz.laidOut hb [22, 9] _ _ _ (by kernel_rfl) hlt hA'
  have hback' : DataW.TrodAll enc Tryz.prog W' 0 (fun b => decide (b < W.heap.size)) true Tryz.f3.params.toList (#[.slice A b.length c, .string s] : Array Value).toList (Rows.arithHalfSpec.fn H ([d0, .lit (.string s.data.toList)] ++ [])).args p0 := by
    rw [Tryz.params3]
    exact hback
  exact ⟨_, rfl, _, _, _, [], _, [], hW', trodAll_mk1 (shut_bool Tryz.underlying4 true), hback', rfl, hb.frame _, fun h => by cases h⟩

theorem arithHalf_said : Rows.ArithHalfSaid :=
  OpenClaim.holds_of_wide 3 Tryz.f3 rfl rfl rfl rfl rfl rfl rfl ⟨rfl, rfl, rfl, rfl, rfl⟩ rfl rfl rfl rfl rfl (by kernel_rfl) Tryz.func3 (by kernel_rfl)
    (of_decide_eq_true (by kernel_rfl)) (by unfold Func.isWrapper; first | (rw [if_pos (by decide +kernel)]; kernel_rfl) | (rw [if_neg (by decide +kernel)]; exact ⟨rfl, rfl⟩))
    (fun os started H enc _ => arithHalf_lifted os started H enc)

theorem arithHalf_card : Rows.ArithHalfCardSaid :=
  Claim7.holds_tied_plain_at .later [] [.handle, .listed, .data, .sentinel, .sentinel, .sentinel, .sentinel, .sentinel, .sentinel, .sentinel, .sentinel, .sentinel, .sentinel, .sentinel, .sentinel, .sentinel, .sentinel, .sentinel, .sentinel, .sentinel, .sentinel, .sentinel, .sentinel, .sentinel] true (true, "30e0b9793e9bc71d1783dff3583ad4ed1c026c8d6159c2d4c2251d60be95b170") true
    arithHalf_said (fun _ h => by cases h) (by kernel_rfl) (fun _ h => by cases h) arithHalf_row_tie rfl ⟨rfl, rfl⟩ (by kernel_rfl) rfl
    (fun f fn hf hfn => by
      obtain rfl : f = 3 := Option.some.inj ((show Tryz.prog.funcNamed "pidgin/pidginlaw4.ArithHalf" = some 3 by kernel_rfl).symm.trans hf) |>.symm
      obtain rfl : fn = Tryz.f3 := (Option.some.inj (Tryz.func3.symm.trans hfn)).symm
      exact ⟨by kernel_rfl, fun j t ht => by
        rw [Tryz.params3] at ht
        have h3 : t = 22 ∨ t = 9 := by
          rcases j with _ | _ | j
          · exact .inl (by simpa using ht.symm)
          · exact .inr (by simpa using ht.symm)
          · simp at ht
        rcases h3 with rfl | rfl
        · exact (show Tryz.prog.wantsStandIn 22 = false by kernel_rfl)
        · exact (show Tryz.prog.wantsStandIn 9 = false by kernel_rfl)⟩)
    (by kernel_rfl)
end Go.Proofs.YtjllmamblkejjaaGreatDoor
end
