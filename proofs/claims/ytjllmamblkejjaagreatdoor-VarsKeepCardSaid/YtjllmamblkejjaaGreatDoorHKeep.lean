/- VarsKeep always answers true: the row's statement, and its card. No conditions. -/
import Derived.Test.YtjllmamblkejjaaGreatDoorK
import Derived.Test.YtjllmamblkejjaaGreatDoorCards
import Derived.Test.YtjllmamblkejjaaGreatDoorTie
import Derived.SevenTiedAt
import Derived.Carry
import Derived.ChangeOld

section
set_option linter.unusedVariables false
set_option linter.unusedSimpArgs false
namespace Go.Proofs.YtjllmamblkejjaaGreatDoor
open Go.ChangeShapes Go.WideShapes Go.ChangeAt Go.RowKit Sp

set_option maxRecDepth 100000 in
theorem varsKeep_lifted (os : Os) (started : os.Started) (H : Type) (enc : TypeId × Value → H) :
    ReturnsInHanded {} Tryz.checked os 6 .any (fun w args => (Rows.varsKeepSpec.pre enc Tryz.prog Tryz.f6 [] false w args ∧ laidMetH Tryz.prog lay w) ∧ sizedMet enc Tryz.prog Tryz.f6 (OpenSpec.ofChange Rows.varsKeepSpec) false w args)
      (Rows.varsKeepSpec.post enc Tryz.prog Tryz.f6 false true false false) := by
  refine returnsInHanded_of_change_and (C := Tryz.checked) (X := fun w _ => laidMetH Tryz.prog lay w) (fun _ _ _ hh h => lay_heap hh h) Tryz.ownK started (by kernel_rfl) Tryz.func6
    (ChangeSpec.witness_shaped (enc := enc) (C := Tryz.checked) (os := os) (X := fun w _ => laidMetH Tryz.prog lay w) false (World.doorLaid Tryz.prog 439 os) #[.slice none 0 0, .string ⟨#[]⟩, .string ⟨#[]⟩] 8 rfl (door_shaped os _) (by kernel_rfl) (by kernel_rfl) (by kernel_rfl) (door_met os _)) ?_
  intro W base args ds gs before hval0 hW _ hsz hL _
  have hval : ∀ (j : Nat) t v, Tryz.f6.params[j]? = some t → args[j]? = some v → Value.okWide Tryz.prog W .any base t v := hval0
  have hW' := hW
  obtain ⟨p, q, hA0, hV, rfl, hfz, hnd⟩ := hW
  have hA : DataW.TrodAll enc Tryz.prog W 0 (fun _ => true) true Tryz.f6.params.toList args.toList ds p := hA0
  have hlt : ∀ x ∈ p ++ q, x.block < W.heap.size := hW'.lt
  rw [Tryz.params6] at hA hval
  obtain ⟨rfl, rfl⟩ := trodVars_none hV
  have hA' := hA
  obtain ⟨v0, v1, v2, d0, d1, d2, p0, p1, p2, rfl, rfl, rfl, h0, h1, h2⟩ := trodAll_three hA
  obtain ⟨s, rfl, rfl, rfl, hs⟩ := Go.ChangeMaps.open_string Tryz.underlying9 (hval 1 9 v1 rfl rfl) h1
  obtain ⟨t, rfl, rfl, rfl, ht⟩ := Go.ChangeMaps.open_string Tryz.underlying9 (hval 2 9 v2 rfl rfl) h2
  have hwt : ∀ n ∈ DataW.weightsEach Tryz.prog [35, 9, 9] [d0, .lit (.string s.data.toList), .lit (.string t.data.toList)], n ≤ reachBytes := by
    have h2 : (DataW.weightsEach Tryz.prog [35, 9, 9] [d0, .lit (.string s.data.toList), .lit (.string t.data.toList)]).all (· ≤ reachBytes) = true := hsz
    intro n hn
    simpa using List.all_eq_true.1 h2 n hn
  simp only [DataW.weightsEach, DataW.weights, List.mem_append, List.mem_cons, List.not_mem_nil, or_false] at hwt
  obtain ⟨A, l, c, rfl, hr, hl⟩ := open_vars (hval 0 35 v0 rfl rfl) h0 (fun n hn => hwt n (.inl hn))
  have hsl : small s.data.toList := by
    have := hwt s.data.toList.length (.inr (.inl rfl))
    unfold reachBytes at this
    unfold small; omega
  have htl : small t.data.toList := by
    have := hwt t.data.toList.length (.inr (.inr rfl))
    unfold reachBytes at this
    unfold small; omega
  obtain ⟨E, hE⟩ := env_of_laid hL
  clear hA0 hval0 hsz
  simp only [List.append_nil] at hW' hlt hA'
  have he := varsKeep_calls E A c l s.data.toList t.data.toList W hE hr hl hsl htl
  rw [← mk_of s, ← mk_of t] at he
  refine he.mono fun e W' ⟨he, hb⟩ => ?_
  subst he
  have hback := trodAll_behind Tryz.laidOut hb [35, 9, 9] _ _ _ (by kernel_rfl) hlt hA'
  have hback' : DataW.TrodAll enc Tryz.prog W' 0 (fun b => decide (b < W.heap.size)) true Tryz.f6.params.toList (#[.slice A l.length c, .string s, .string t] : Array Value).toList (Rows.varsKeepSpec.fn H ([d0, .lit (.string s.data.toList), .lit (.string t.data.toList)] ++ [])).args p0 := by
    rw [Tryz.params6]
    exact hback
  exact ⟨_, rfl, _, _, _, [], _, [], hW', trodAll_mk1 (shut_bool Tryz.underlying4 true), hback', rfl, hb.frame _, fun h => by cases h⟩

theorem varsKeep_said : Rows.VarsKeepSaid :=
  OpenClaim.holds_of_wide 6 Tryz.f6 rfl rfl rfl rfl rfl rfl rfl ⟨rfl, rfl, rfl, rfl, rfl⟩ rfl rfl rfl rfl rfl (by kernel_rfl) Tryz.func6 (by kernel_rfl)
    (of_decide_eq_true (by kernel_rfl)) (by unfold Func.isWrapper; first | (rw [if_pos (by decide +kernel)]; kernel_rfl) | (rw [if_neg (by decide +kernel)]; exact ⟨rfl, rfl⟩))
    (fun os started H enc _ => varsKeep_lifted os started H enc)

theorem varsKeep_card : Rows.VarsKeepCardSaid :=
  Claim7.holds_tied_plain_at .later [] [.handle, .listed, .data, .sentinel, .sentinel, .sentinel, .sentinel, .sentinel, .sentinel, .sentinel, .sentinel, .sentinel, .sentinel, .sentinel, .sentinel, .sentinel, .sentinel, .sentinel, .sentinel, .sentinel, .sentinel, .sentinel, .sentinel, .sentinel] true (true, "30e0b9793e9bc71d1783dff3583ad4ed1c026c8d6159c2d4c2251d60be95b170") true
    varsKeep_said (fun _ h => by cases h) (by kernel_rfl) (fun _ h => by cases h) varsKeep_row_tie rfl ⟨rfl, rfl⟩ (by kernel_rfl) rfl
    (fun f fn hf hfn => by
      obtain rfl : f = 6 := Option.some.inj ((show Tryz.prog.funcNamed "pidgin/pidginlaw4.VarsKeep" = some 6 by kernel_rfl).symm.trans hf) |>.symm
      obtain rfl : fn = Tryz.f6 := (Option.some.inj (Tryz.func6.symm.trans hfn)).symm
      exact ⟨by kernel_rfl, fun j t ht => by
        rw [Tryz.params6] at ht
        have h3 : t = 35 ∨ t = 9 := by
          rcases j with _ | _ | _ | j
          · exact .inl (by simpa using ht.symm)
          · exact .inr (by simpa using ht.symm)
          · exact .inr (by simpa using ht.symm)
          · simp at ht
        rcases h3 with rfl | rfl
        · exact (show Tryz.prog.wantsStandIn 35 = false by kernel_rfl)
        · exact (show Tryz.prog.wantsStandIn 9 = false by kernel_rfl)⟩)
    (by kernel_rfl)
end Go.Proofs.YtjllmamblkejjaaGreatDoor
end
