/- A part of the proof: texts of ours, joined by a program, each in a section of its own; what each proves, and under what conditions, stands ahead of it. -/
import Derived.Test.YtjllmamblkejjaaGreatDoorB03
import Derived.Deep.LoopGhost
import Derived.StillTailTactics
import Derived.Deep.RegionHeld3
import Derived.Maps.RangeWalk
import Derived.Lib.SlBytesConst
import Derived.Test.YtjllmamblkejjaaGreatDoorRows
import Derived.ProofKit
import Derived.LaidMore
import Derived.OpenShut
import Derived.Stop.Joined
import Derived.Stop.LaidErr

/- The machine: run. No conditions. -/
section
set_option linter.unusedVariables false
set_option linter.unusedSimpArgs false
namespace Go.Proofs.YtjllmamblkejjaaGreatDoor
open Go.RowKit Go.Proofs.YtjllmamblkejjaaGreatDoorW.PrintWords Go.Proofs.YtjllmamblkejjaaGreatDoorW.PrintLast Go.Proofs.YtjllmamblkejjaaGreatDoorW.PrintMore
open PQA Sp

structure CodeOk (w0 : World) (gr cap : Nat) (cur : Array Value) (L : List I) : Prop where
  row : w0.heap[gr]? = some (.cells cur 141 (0, 0))
  take : cur.toList.take (L.length * 6) = flat L
  cap : L.length ≤ cap
  len : L.length ≤ 100000
  ok : ∀ i ∈ L, small i.name ∧ In64 i.n ∧ i.dest ≤ 1000000 ∧ (i.op = 2 → isName i.name)
structure RunInv (m : Vs) (L : List I) (r : Out) (gm : Nat) (pv : Value) (w0 wr : World) (k : Nat) (s : St) : Prop where
  run : exec (mach m) L k s = some r
  ms : MS w0.heap.size wr gm pv s
  below : Below w0.heap.size w0 wr
  stack : s.stack.length + k ≤ 1000000
  steps : s.steps + k ≤ 1000000
  at_ : s.at_ ≤ 1000000
  small : ∀ p ∈ s.set, small p.2
  setlen : s.set.length + k ≤ 100000
  names : ∀ p ∈ s.set, Go.Proofs.YtjllmamblkejjaaGreatDoor.small p.1 ∧ isName p.1
def RunPost (E : Nat → Addr) (gm : Nat) (pv : Value) (w0 : World) : Out → Ending → World → Prop
  | .val x set steps, e, w' => Below w0.heap.size w0 w' ∧ e = .returned (.tuple #[.int .i64 x, .nilIface]) ∧ In64 x ∧ ∃ s, s.set = set ∧ s.steps = steps ∧ MS w0.heap.size w' gm pv s ∧ (∀ p ∈ set, small p.2) ∧ (∀ p ∈ set, small p.1 ∧ isName p.1) ∧ set.length ≤ 100000
  | .err c p steps, e, w' => Below w0.heap.size w0 w' ∧ ∃ v, e = .returned (.tuple #[.int .i64 0, v]) ∧ ErrV E w' v c p 1 ∧ ∃ s, s.steps = steps ∧ MS w0.heap.size w' gm pv s
theorem MS.step {base gm : Nat} {w : World} {pv : Value} {s : St} (h : MS base w gm pv s) (a : Nat) : MS base (w.setCell ⟨gm, 3, none⟩ (.int .i64 ((s.steps : Int) + 1))) gm pv ⟨a, s.stack, s.set, s.steps + 1⟩ := by
  obtain ⟨⟨v, bs, hg, how, hm, hbs⟩, hge, hri, hin⟩ := h
  have hgne := own_ne how hg (by decide)
  obtain ⟨es, clock, hmb⟩ := hm.obj
  have hmne : bs ≠ gm := by intro e; rw [e, hg] at hmb; cases hmb
  refine ⟨⟨v, bs, ?_, own_keep how (fun q hq _ => Below.heap_setCell w ⟨gm, 3, none⟩ _ q (fun e => hgne (by rw [hq]; exact congrArg some e.symm))), hm.at (Below.heap_setCell w ⟨gm, 3, none⟩ _ bs hmne), hbs⟩, hge, hri, hin⟩
  have h1 := blk_set hg 3 (.int .i64 ((s.steps : Int) + 1))
  rw [h1]
  simp
theorem MS.re {base gm : Nat} {w : World} {pv : Value} {s : St} (h : MS base w gm pv s) (a : Nat) : MS base w gm pv { s with at_ := a } := ⟨h.made, h.ge, h.rising, h.ints⟩
theorem MKeep.below0 {w0 w w' : World} {gm : Nat} (h : MKeep w0.heap.size gm w w') (hb : Below w0.heap.size w0 w) : Below w0.heap.size w0 w' := hb.trans h.below
theorem instr_cell {w0 wr : World} {gr cap : Nat} {cur : Array Value} {L : List I} (h : CodeOk w0 gr cap cur L) (hb : Below w0.heap.size w0 wr) {a : Nat} {i : I} (hi : L[a]? = some i) (j : Nat) (u : Value) (hj : (icells i)[j]? = some u) : wr.cell? ⟨gr, a * 6 + j, none⟩ = some u := by
  have hr := (hb.block gr (blk_lt h.row)).trans h.row
  have hal : a < L.length := (List.getElem?_eq_some_iff.1 hi).1
  have hj6 : j < 6 := (List.getElem?_eq_some_iff.1 hj).1
  refine (blk_cell hr _).trans ?_
  have h1 : cur[a * 6 + j]? = (flat L)[a * 6 + j]? := by
    rw [← h.take, List.getElem?_take_of_lt (by omega)]; simp
  rw [h1, flat_get L a j i hi hj6, hj]
theorem load_cs (E : Nat → Addr) (base gm : Nat) (pv : Value) (m : Vs) (s : St) (i : I) (w : World) (hE : Env E w) (h : MS base w gm pv s) (hv : VarsAt w pv m) (hpv : ∃ a, pv = .pointer a) (hx : small i.name) (hsm : ∀ p ∈ s.set, small p.2) (hl : s.stack.length ≤ 1000000) (v0 v1 v2 v3 v4 v5 : Value) (hi : icells i = [v0, v1, v2, v3, v4, v5]) :
    Calls Tryz.prog 76 #[.pointer (some ⟨gm, 0, none⟩), .agg #[v0, v1, v2, v3, v4, v5]] w (LoadPost E base gm pv s (number (look (mach m) s.set i.name)) i.pos w) := by
  have := load_calls E base gm pv m s i w hE h hv hpv hx hsm hl (mach m) rfl
  rw [hi] at this
  exact this
theorem MS.drew {base gm : Nat} {w : World} {pv : Value} {s : St} (h : MS base w gm pv s) : MS base w.drew gm pv s := ⟨h.made, h.ge, h.rising, h.ints⟩
theorem MS.drewN {base gm : Nat} {w : World} {pv : Value} {s : St} (h : MS base w gm pv s) (n : Nat) : MS base (w.drewN n) gm pv s := ⟨h.made, h.ge, h.rising, h.ints⟩
theorem ms_store {base gm : Nat} {w : World} {pv : Value} {s : St} (h : MS base w gm pv s) {bs : Nat} {v : Value} (hg : w.heap[gm]? = some (.cells #[pv, .map (some bs), v, .int .i64 (s.steps : Int)] 110 (0, 0))) {name t : Bs} (hn : small name) (ht : small t) (hl : s.set.length ≤ 1000000) :
    ∃ w', (Instr.mapUpdate 81 (.map (some bs)) (.string (mk name)) (.string (mk t))).run Tryz.prog w = .ok () w' ∧ MS base w' gm pv { s with set := mset name t s.set } ∧ (∀ k, k ≠ bs → w'.heap[k]? = w.heap[k]?) ∧ Below base w w' ∧ ∃ es clock, w.heap[bs]? = some (.map es clock) := by
  obtain ⟨⟨v', bs', hg', how, hm, hbs⟩, hge, hri, hin⟩ := h
  have e := hg.symm.trans hg'
  simp only [Option.some.injEq, Obj.cells.injEq, Array.mk.injEq, List.cons.injEq, Value.map.injEq, and_true, true_and] at e
  obtain ⟨rfl, rfl⟩ := e
  obtain ⟨es, clock, hmb⟩ := hm.obj
  obtain ⟨w', hrun, hown, hturn⟩ := World.ownsMap.store hm keyS Tryz.underlying81 (by unfold maxLen; omega) (keyOfS hn) (valS ht)
  have hgr := hturn.grown
  have hk : ∀ k, k ≠ bs → w'.heap[k]? = w.heap[k]? := by
    intro k hk
    by_cases hkl : k < w.heap.size
    · exact hgr.block k hkl (by simpa using hk)
    · have h1 : w'.heap.size = w.heap.size := by
        obtain ⟨e1, c1, e2, c2, h0, rfl⟩ := hturn
        simp [ChangeMaps.setBlock]
      rw [Array.getElem?_eq_none (by omega), Array.getElem?_eq_none (by omega)]
  have hmne : gm ≠ bs := by intro e; rw [← e, hg] at hmb; cases hmb
  rw [dat_put] at hown
  refine ⟨w', hrun, ⟨⟨v, bs, (hk gm hmne).trans hg, own_keep how (fun q hq _ => hk q (fun e => own_neo how hmb (by intro cs; simp) (by rw [hq, e]))), VMap.ofn hown, hbs⟩, hge, rising_set hri, hin⟩, hk, ?_, es, clock, hmb⟩
  exact ⟨hgr.os, hgr.tape, hgr.output, hgr.size, fun k hk' => hk k (by omega)⟩
theorem push_in (base gm : Nat) (pv : Value) (s : St) (x : Int) (w : World) (h : MS base w gm pv s) (hl : s.stack.length ≤ 1000000) (hx : In64 x) :
    Calls Tryz.prog 75 #[.pointer (some ⟨gm, 0, none⟩), .int .i64 x] w fun e w' => e = .returned (.tuple #[]) ∧ MS base w' gm pv { s with stack := x :: s.stack } ∧ MKeep base gm w w' := push_calls base gm pv s x w h hl hx.1 hx.2
theorem text_in {x : Int} (h : In64 x) (w : World) : Calls Tryz.prog 77 #[.int .i64 x] w fun e w' => e = .returned (.string (mk (text x))) ∧ Below w.heap.size w w' := text_calls x h.1 h.2 w
theorem step1_stuck (M : Mach) (i : I) (s : St) (h0 : i.op ≠ 0) (h1 : i.op ≠ 1) (h2 : i.op ≠ 2) (h3 : i.op ≠ 3) (h4 : i.op ≠ 4) (h5 : i.op ≠ 5) (h7 : i.op ≠ 7) (h8 : i.op ≠ 8) : step1 M i s = .stuck := by
  obtain ⟨op, n, name, by_, pos, dest⟩ := i
  simp only at h0 h1 h2 h3 h4 h5 h7 h8
  unfold step1
  simp only
  try (split <;> first | rfl | omega)
theorem text_small {x : Int} (h : In64 x) : small (text x) := by have := text_len x h.1 h.2; unfold small; omega

set_option maxHeartbeats 8000000 in
set_option maxRecDepth 100000 in
theorem run_calls (E : Nat → Addr) (gm : Nat) (pv : Value) (m : Vs) (L : List I) (f : Nat) (r : Out) (w0 : World) (hE : Env E w0) (hv : VarsAt w0 pv m) (hpv : ∃ a, pv = .pointer a) (gr cap : Nat) (cur : Array Value) (hC : CodeOk w0 gr cap cur L) (w : World) (hI : RunInv m L r gm pv w0 w f ⟨0, [], [], 0⟩) :
    Calls Tryz.prog 48 #[.pointer (some ⟨gm, 0, none⟩), .slice (some ⟨gr, 0, none⟩) L.length cap] w (RunPost E gm pv w0 r) := by
  have hgl := hI.ms.ge
  have hgrl := blk_lt hC.row
  have hLl := hC.len
  have HI0 := Aside0.mk hI
  have HE := Aside0.mk hE
  have HV := Aside0.mk hv
  have HC := Aside0.mk hC
  have HPV := Aside0.mk hpv
  clear hI hE hv hC hpv
  go_enter Tryz.func48, Tryz.ntmps48
  go_wp2_with fail
  go_loopg [6] f (fun gk v6 wr => ∃ s : St, v6 = .int .i64 (s.at_ : Int) ∧ Aside0 (RunInv m L r gm pv w0 wr gk s))
  case atStart => exact ⟨⟨0, [], [], 0⟩, rfl, HI0⟩
  case round =>
    obtain ⟨⟨at_, stack, set, steps⟩, rfl, HI⟩ := hrel
    clear HI0
    have hrun := HI.out.run
    obtain ⟨k, rfl⟩ : ∃ k, gk = k + 1 := by
      cases gk with
      | zero => simp [exec] at hrun
      | succ k => exact ⟨k, rfl⟩
    have hst := HI.out.stack
    have hsp := HI.out.steps
    have hatm := HI.out.at_
    have hsl := HI.out.setlen
    simp only at hst hsp hatm hsl
    cases hli : L[at_]? with
    | none =>
      have hge : L.length ≤ at_ := List.getElem?_eq_none_iff.1 hli
      have hd : decide (at_ < L.length) = false := by simp; omega
      rw [exec, hli] at hrun
      cases stack with
      | nil => simp at hrun
      | cons x rest =>
        simp only [Option.some.injEq] at hrun
        have HR := Aside0.mk hrun
        clear hrun hli hge
        go_wp2_with fail
        with_reducible refine (pop_calls w0.heap.size gm pv ⟨at_, x :: rest, set, steps⟩ x rest _ HI.out.ms rfl (by simp at hst; omega)).mono ?_
        rintro e w2 ⟨rfl, hm2, hk2⟩
        go_wp2_with fail
        go_ret2
        rw [← HR.out]
        exact ⟨hk2.below0 HI.out.below, rfl, HI.out.ms.ints x (by simp), _, rfl, rfl, hm2, HI.out.small, HI.out.names, by omega⟩
    | some i =>
      have hal : at_ < L.length := (List.getElem?_eq_some_iff.1 hli).1
      have him := List.mem_of_getElem? hli
      obtain ⟨hnm, hin, hdst, hvn⟩ := HC.out.ok i him
      obtain ⟨op, n, name, by_, pos, dest⟩ := i
      simp only at hnm hin hdst hvn
      have hd : decide (at_ < L.length) = true := by simp; omega
      rw [exec, hli] at hrun
      simp only at hrun
      have hx0 := instr_cell HC.out HI.out.below hli 0 _ rfl
      have hx1 := instr_cell HC.out HI.out.below hli 1 _ rfl
      have hx2 := instr_cell HC.out HI.out.below hli 2 _ rfl
      have hx3 := instr_cell HC.out HI.out.below hli 3 _ rfl
      have hx4 := instr_cell HC.out HI.out.below hli 4 _ rfl
      have hx5 := instr_cell HC.out HI.out.below hli 5 _ rfl
      simp only [Nat.add_zero] at hx0 hx1 hx2 hx3 hx4 hx5
      obtain ⟨sv, bs, hg, how, hm, hbs⟩ := HI.out.ms.made
      simp only at hg how hm
      have hs3 : wr.cell? ⟨gm, 3, none⟩ = some (.int .i64 (steps : Int)) := (blk_cell hg 3).trans rfl
      have hf3 := blk_frozen hg 3
      have hglt := blk_lt hg
      have hgne : ¬ gr = gm := by omega
      have hgne2 : ¬ gm = gr := by omega
      have hgq : ¬ gm = wr.heap.size := by omega
      have HNM := Aside0.mk hnm
      have HVN := Aside0.mk hvn
      have HIN := Aside0.mk hin
      obtain ⟨oi, hoi⟩ : ∃ oi : Int, oi = (op : Int) := ⟨_, rfl⟩
      rw [← hoi] at hx0
      have HM1 := Aside0.mk ((HI.out.ms.step (at_ + 1)).alloc (.cells #[.int .i64 oi, .int .i64 n, .string (mk name), .string (mk by_), .int .i64 (pos : Int), .int .i64 (dest : Int)] 141))
      have HB1 := Aside0.mk ((HI.out.below.setCell (p := ⟨gm, 3, none⟩) hgl (.int .i64 ((steps : Int) + 1))).alloc (Nat.le_trans HI.out.below.size (by simp)) (.cells #[.int .i64 oi, .int .i64 n, .string (mk name), .string (mk by_), .int .i64 (pos : Int), .int .i64 (dest : Int)] 141))
      have HX1 := Aside0.mk (heap_new (w := wr) (W := wr.setCell ⟨gm, 3, none⟩ (.int .i64 ((steps : Int) + 1))) (by simp) (.cells #[.int .i64 oi, .int .i64 n, .string (mk name), .string (mk by_), .int .i64 (pos : Int), .int .i64 (dest : Int)] 141))
      have HSM := Aside0.mk HI.out.small
      have HNS := Aside0.mk HI.out.names
      have HWS := Aside0.mk HI.out.ms.ints
      have hai : (at_ : Int) < (L.length : Int) := by omega
      clear hg how hm hli him hnm hin hvn HI
      simp only at HM1
      simp only at HSM HNS HWS
      by_cases h0 : op = 0
      · subst h0
        have e0 : (oi == 0) = true := by rw [beq_iff_eq]; omega
        have HOI := Aside0.mk hoi
        clear hoi
        have HRN : Aside0 (exec (mach m) L k ⟨at_ + 1, n :: stack, set, steps + 1⟩ = some r) := ⟨by simpa [step1] using hrun⟩
        clear hrun
        go_wp2_with fail
        with_reducible refine (push_in w0.heap.size gm pv ⟨at_ + 1, stack, set, steps + 1⟩ n _ HM1.out (by first | omega | (simp at hst ⊢; omega)) HIN.out).mono ?_
        rintro e w2 ⟨rfl, hm2, hk2⟩
        have HM2 := Aside0.mk hm2
        have HB2 := Aside0.mk (hk2.below0 HB1.out)
        clear hm2 hk2
        go_wp2_with fail
        go_roundg k
        case measure => omega
        case rel => exact ⟨⟨at_ + 1, n :: stack, set, steps + 1⟩, by go_num, ⟨⟨HRN.out, HM2.out, HB2.out, by simp only [List.length_cons] at hst ⊢; omega, by simp only; omega, by simp only; omega, HSM.out, by simp only; omega, HNS.out⟩⟩⟩
      by_cases h1 : op = 1
      · subst h1
        have e0 : (oi == 0) = false := by rw [beq_eq_false_iff_ne]; omega
        have e1 : (oi == 1) = true := by rw [beq_iff_eq]; omega
        have HOI := Aside0.mk hoi
        clear hoi
        have hpo : VarsAt ((wr.setCell ⟨gm, 3, none⟩ (.int .i64 ((steps : Int) + 1))).alloc (.cells #[.int .i64 oi, .int .i64 n, .string (mk name), .string (mk by_), .int .i64 (pos : Int), .int .i64 (dest : Int)] 141)) pv m := HV.out.below HB1.out
        have HVB := Aside0.mk hpo
        clear hpo
        obtain ⟨y, hy⟩ : ∃ y, y = number (look (mach m) set name) := ⟨_, rfl⟩
        simp only [step1] at hrun
        rw [← hy] at hrun
        have HY := Aside0.mk hy
        clear hy
        go_wp2_with fail
        with_reducible refine (load_cs E w0.heap.size gm pv m ⟨at_ + 1, stack, set, steps + 1⟩ ⟨1, n, name, by_, pos, dest⟩ _ (HE.out.below HB1.out) HM1.out HVB.out HPV.out HNM.out HSM.out (by first | omega | (simp at hst ⊢; omega)) _ _ _ _ _ _ (by simp only [icells]; rw [HOI.out])).mono ?_
        rintro e w2 hp
        rw [← HY.out] at hp
        by_cases hc : y.2 = 0
        · rw [if_pos hc] at hrun
          obtain ⟨rfl, hm2⟩ := hp.ok hc
          have HM2 := Aside0.mk hm2
          have HB2 := Aside0.mk (hp.keep.below0 HB1.out)
          have HRN : Aside0 (exec (mach m) L k ⟨at_ + 1, y.1 :: stack, set, steps + 1⟩ = some r) := ⟨hrun⟩
          clear hp hm2 hrun hc
          go_wp2_with fail
          go_roundg k
          case measure => omega
          case rel => exact ⟨⟨at_ + 1, y.1 :: stack, set, steps + 1⟩, by go_num, ⟨⟨HRN.out, HM2.out, HB2.out, by simp only [List.length_cons] at hst ⊢; omega, by simp only; omega, by simp only; omega, HSM.out, by simp only; omega, HNS.out⟩⟩⟩
        · rw [if_neg hc] at hrun
          obtain ⟨hm2, v2, rfl, hev⟩ := hp.bad hc
          have HM2 := Aside0.mk hm2
          have HB2 := Aside0.mk (hp.keep.below0 HB1.out)
          have HEV := Aside0.mk hev
          obtain ⟨se, pe, rfl, _⟩ := hev
          have HRN : Aside0 (Out.err y.2 pos (steps + 1) = r) := ⟨by simpa using hrun⟩
          clear hp hm2 hrun hc
          go_wp2_with fail
          go_ret2
          rw [← HRN.out]
          exact ⟨HB2.out, _, rfl, HEV.out, _, rfl, HM2.out⟩
      by_cases h2 : op = 2
      · subst h2
        have e0 : (oi == 0) = false := by rw [beq_eq_false_iff_ne]; omega
        have e1 : (oi == 1) = false := by rw [beq_eq_false_iff_ne]; omega
        have e2 : (oi == 2) = true := by rw [beq_iff_eq]; omega
        have HOI := Aside0.mk hoi
        clear hoi
        cases stack with
        | nil => simp [step1] at hrun
        | cons x st =>
          have HRN : Aside0 (exec (mach m) L k ⟨at_ + 1, x :: st, mset name (text x) set, steps + 1⟩ = some r) := ⟨by simpa [step1] using hrun⟩
          clear hrun
          have HWX : Aside0 (In64 x) := ⟨HWS.out x (by simp)⟩
          obtain ⟨sv1, bs1, hg1, how1, hm1, hbs1⟩ := HM1.out.made
          simp only [List.length_cons] at hg1 how1 hm1
          rcases how1.2 with ⟨_, h00⟩ | ⟨g, cap2, cur2, rfl, hb1, hr1, hnc, hcap, hcs, htk⟩
          · omega
          have hcx : cur2[st.length]? = some (.int .i64 x) := by
            have h1 : cur2[st.length]? = (stk (x :: st))[st.length]? := by
              rw [← htk, List.getElem?_take_of_lt (by omega)]; simp
            rw [h1, stk_cons, List.getElem?_append_right (by rw [stk_len]; exact Nat.le_refl _), stk_len]
            simp
          have HCX := Aside0.mk hcx
          have HG1 := Aside0.mk hg1
          have HR1 := Aside0.mk hr1
          have c1 : ((wr.setCell ⟨gm, 3, none⟩ (.int .i64 ((steps : Int) + 1))).alloc (.cells #[.int .i64 oi, .int .i64 n, .string (mk name), .string (mk by_), .int .i64 (pos : Int), .int .i64 (dest : Int)] 141)).cell? ⟨gm, 1, none⟩ = some (.map (some bs1)) := (blk_cell hg1 1).trans rfl
          have c2 : ((wr.setCell ⟨gm, 3, none⟩ (.int .i64 ((steps : Int) + 1))).alloc (.cells #[.int .i64 oi, .int .i64 n, .string (mk name), .string (mk by_), .int .i64 (pos : Int), .int .i64 (dest : Int)] 141)).cell? ⟨gm, 2, none⟩ = some (.slice (some ⟨g, 0, none⟩) (st.length + 1) cap2) := (blk_cell hg1 2).trans rfl
          have c3 : ((wr.setCell ⟨gm, 3, none⟩ (.int .i64 ((steps : Int) + 1))).alloc (.cells #[.int .i64 oi, .int .i64 n, .string (mk name), .string (mk by_), .int .i64 (pos : Int), .int .i64 (dest : Int)] 141)).cell? ⟨wr.heap.size, 2, none⟩ = some (.string (mk name)) := (blk_cell HX1.out 2).trans rfl
          have c4 : ((wr.setCell ⟨gm, 3, none⟩ (.int .i64 ((steps : Int) + 1))).alloc (.cells #[.int .i64 oi, .int .i64 n, .string (mk name), .string (mk by_), .int .i64 (pos : Int), .int .i64 (dest : Int)] 141)).cell? ⟨g, st.length, none⟩ = some (.int .i64 x) := (blk_cell hr1 _).trans HCX.out
          have hstl : st.length ≤ 1000000 := by simp only [List.length_cons] at hst; omega
          have hs0 : (0 : Int) ≤ (st.length : Int) := by omega
          have hs1 : (st.length : Int) < (st.length : Int) + 1 := by omega
          have hln : IntKind.i64.wrap ((st.length : Int) + 1 - 1) = (st.length : Int) := by rw [Int.add_sub_cancel]; exact IntWalk.i64_in _ (by omega)
          have hlm : IntKind.i64.wrap (st.length : Int) = (st.length : Int) := IntWalk.i64_in _ (by omega)
          have hs2 : st.length < st.length + 1 := by omega
          have hcapm : st.length + 1 ≤ cap2 := hnc
          have hg1lt := blk_lt hg1
          have hr1lt := blk_lt hr1
          have hx1lt := blk_lt HX1.out
          clear hcx hg1 how1 hm1 hr1 hcs htk hcap
          go_wp2_with fail
          go_region_held3 (fun W => W.cell? ⟨gm, 1, none⟩ = some (.map (some bs1)) ∧ W.cell? ⟨gm, 2, none⟩ = some (.slice (some ⟨g, 0, none⟩) (st.length + 1) cap2) ∧ W.cell? ⟨wr.heap.size, 2, none⟩ = some (.string (mk name)) ∧ W.cell? ⟨g, st.length, none⟩ = some (.int .i64 x)) (go_keep) (first | ((go_at_call 77; (with_reducible refine (text_in HWX.out _).mono ?_); rintro e w5 ⟨rfl, hb5⟩; have hg5 := blk_below (blk_drew HG1.out) hb5; have hx5 := blk_below (blk_drew HX1.out) hb5; have hr5 := blk_below (blk_drew HR1.out) hb5; have y1 : w5.cell? ⟨gm, 1, none⟩ = some (.map (some bs1)) := (blk_cell hg5 1).trans rfl; have y2 : w5.cell? ⟨gm, 2, none⟩ = some (.slice (some ⟨g, 0, none⟩) (st.length + 1) cap2) := (blk_cell hg5 2).trans rfl; have y3 : w5.cell? ⟨wr.heap.size, 2, none⟩ = some (.string (mk name)) := (blk_cell hx5 2).trans rfl; have y4 : w5.cell? ⟨g, st.length, none⟩ = some (.int .i64 x) := (blk_cell hr5 _).trans HCX.out; obtain ⟨w6, hrun6, hm6, hk6, hb6, es6, cl6, hmb6⟩ := ms_store (HM1.out.drew.below hb5) hg5 HNM.out (text_small HWX.out) (by simp only at hsl ⊢; omega); have hg6 := (hk6 gm (by intro e; rw [← e, hg5] at hmb6; cases hmb6)).trans hg5; have hx6 := (hk6 wr.heap.size (by intro e; rw [← e, hx5] at hmb6; cases hmb6)).trans hx5; have hr6 := (hk6 g (by intro e; rw [← e, hr5] at hmb6; cases hmb6)).trans hr5; have z1 : w6.cell? ⟨gm, 1, none⟩ = some (.map (some bs1)) := (blk_cell hg6 1).trans rfl; have z2 : w6.cell? ⟨gm, 2, none⟩ = some (.slice (some ⟨g, 0, none⟩) (st.length + 1) cap2) := (blk_cell hg6 2).trans rfl; have z3 : w6.cell? ⟨wr.heap.size, 2, none⟩ = some (.string (mk name)) := (blk_cell hx6 2).trans rfl; have z4 : w6.cell? ⟨g, st.length, none⟩ = some (.int .i64 x) := (blk_cell hr6 _).trans HCX.out; have HM6 := Aside0.mk hm6; have HB6 := Aside0.mk (((below_drew1 HB1.out).trans (hb5.mono (below_drew1 HB1.out).size)).trans hb6); clear hg5 hx5 hr5 hg6 hx6 hr6 hm6 hk6 hb6 hmb6 hb5)))
          all_goals
            rename_i hHeld
            clear hHeld
            go_wp2_with fail
            go_roundg k
            case measure => omega
            case rel => exact ⟨⟨at_ + 1, x :: st, mset name (text x) set, steps + 1⟩, by go_num, ⟨⟨HRN.out, HM6.out, HB6.out, by simp only [List.length_cons] at hst ⊢; omega, by simp only; omega, by simp only; omega, fun p hp => by rcases (mem_mset _ _ p _).1 hp with rfl | hp; exact text_small HWX.out; exact HSM.out p hp.1, by have := len_mset name (text x) set; simp only; omega, fun p hp => by rcases (mem_mset _ _ p _).1 hp with rfl | hp; exact ⟨HNM.out, HVN.out (by simp)⟩; exact HNS.out p hp.1⟩⟩⟩
      by_cases h3 : op = 3
      · subst h3
        have e0 : (oi == 0) = false := by rw [beq_eq_false_iff_ne]; omega
        have e1 : (oi == 1) = false := by rw [beq_eq_false_iff_ne]; omega
        have e2 : (oi == 2) = false := by rw [beq_eq_false_iff_ne]; omega
        have e3 : (oi == 3) = true := by rw [beq_iff_eq]; omega
        have HOI := Aside0.mk hoi
        clear hoi
        cases stack with
        | nil => simp [step1] at hrun
        | cons x st =>
          have HRN : Aside0 (exec (mach m) L k ⟨at_ + 1, one by_ x :: st, set, steps + 1⟩ = some r) := ⟨by simpa [step1, mach] using hrun⟩
          clear hrun
          have HWX : Aside0 (In64 (one by_ x)) := ⟨one_in (HWS.out x (by simp))⟩
          have bx0_3 : ((wr.setCell ⟨gm, 3, none⟩ (.int .i64 ((steps : Int) + 1))).alloc (.cells #[.int .i64 oi, .int .i64 n, .string (mk name), .string (mk by_), .int .i64 (pos : Int), .int .i64 (dest : Int)] 141)).cell? ⟨wr.heap.size, 3, none⟩ = some (.string (mk by_)) := (blk_cell HX1.out 3).trans rfl
          go_wp2_with fail
          go_region_held3 (fun W => W.cell? ⟨wr.heap.size, 3, none⟩ = some (.string (mk by_))) (go_keep) (first | ((go_at_call 79; (with_reducible refine (pop_calls w0.heap.size gm pv ⟨at_ + 1, x :: st, set, steps + 1⟩ x (st) _ HM1.out.drew rfl (by first | omega | (simp at hst ⊢; omega))).mono ?_); rintro e w2 ⟨rfl, hm2, hk2⟩; have HM2 := Aside0.mk hm2; have HB2 := Aside0.mk (hk2.below0 (below_drew1 HB1.out)); have hbx_w2 := hk2.block wr.heap.size _ HX1.out (by intro cs; simp) (by omega); have bx_w2_0 : w2.cell? ⟨wr.heap.size, 0, none⟩ = some (.int .i64 oi) := (blk_cell hbx_w2 0).trans rfl; have bx_w2_1 : w2.cell? ⟨wr.heap.size, 1, none⟩ = some (.int .i64 n) := (blk_cell hbx_w2 1).trans rfl; have bx_w2_2 : w2.cell? ⟨wr.heap.size, 2, none⟩ = some (.string (mk name)) := (blk_cell hbx_w2 2).trans rfl; have bx_w2_3 : w2.cell? ⟨wr.heap.size, 3, none⟩ = some (.string (mk by_)) := (blk_cell hbx_w2 3).trans rfl; have bx_w2_4 : w2.cell? ⟨wr.heap.size, 4, none⟩ = some (.int .i64 (pos : Int)) := (blk_cell hbx_w2 4).trans rfl; have bx_w2_5 : w2.cell? ⟨wr.heap.size, 5, none⟩ = some (.int .i64 (dest : Int)) := (blk_cell hbx_w2 5).trans rfl; have lt_w2 := blk_lt hbx_w2; have HX2 := Aside0.mk hbx_w2; clear hm2 hk2 hbx_w2)) | ((go_at_call 78; (with_reducible refine (one_calls by_ x _).mono ?_); rintro e w3 ⟨rfl, ⟨nd, rfl⟩⟩)) | ((go_at_call 75; (with_reducible refine (push_in w0.heap.size gm pv ⟨at_ + 1, st, set, steps + 1⟩ (one by_ x) _ (HM2.out.drewN _) (by first | omega | (simp only [List.length_cons] at hst ⊢; omega)) HWX.out).mono ?_); rintro e w4 ⟨rfl, hm4, hk4⟩; have HM4 := Aside0.mk hm4; have HB4 := Aside0.mk (hk4.below0 (pw_below_drewN HB2.out _)); have hbx_w4 := hk4.block wr.heap.size _ HX2.out (by intro cs; simp) (by omega); have bx_w4_0 : w4.cell? ⟨wr.heap.size, 0, none⟩ = some (.int .i64 oi) := (blk_cell hbx_w4 0).trans rfl; have bx_w4_1 : w4.cell? ⟨wr.heap.size, 1, none⟩ = some (.int .i64 n) := (blk_cell hbx_w4 1).trans rfl; have bx_w4_2 : w4.cell? ⟨wr.heap.size, 2, none⟩ = some (.string (mk name)) := (blk_cell hbx_w4 2).trans rfl; have bx_w4_3 : w4.cell? ⟨wr.heap.size, 3, none⟩ = some (.string (mk by_)) := (blk_cell hbx_w4 3).trans rfl; have bx_w4_4 : w4.cell? ⟨wr.heap.size, 4, none⟩ = some (.int .i64 (pos : Int)) := (blk_cell hbx_w4 4).trans rfl; have bx_w4_5 : w4.cell? ⟨wr.heap.size, 5, none⟩ = some (.int .i64 (dest : Int)) := (blk_cell hbx_w4 5).trans rfl; have lt_w4 := blk_lt hbx_w4; clear hm4 hk4 hbx_w4)))
          all_goals
            rename_i hHeld
            clear hHeld
            go_wp2_with fail
            go_roundg k
            case measure => omega
            case rel => exact ⟨⟨at_ + 1, one by_ x :: st, set, steps + 1⟩, by go_num, ⟨⟨HRN.out, HM4.out, HB4.out, by simp only [List.length_cons] at hst ⊢; omega, by simp only; omega, by simp only; omega, HSM.out, by simp only; omega, HNS.out⟩⟩⟩
      by_cases h4 : op = 4
      · subst h4
        have e0 : (oi == 0) = false := by rw [beq_eq_false_iff_ne]; omega
        have e1 : (oi == 1) = false := by rw [beq_eq_false_iff_ne]; omega
        have e2 : (oi == 2) = false := by rw [beq_eq_false_iff_ne]; omega
        have e3 : (oi == 3) = false := by rw [beq_eq_false_iff_ne]; omega
        have e4 : (oi == 4) = true := by rw [beq_iff_eq]; omega
        have HOI := Aside0.mk hoi
        clear hoi
        cases stack with
        | nil => simp [step1] at hrun
        | cons y st0 =>
          cases st0 with
          | nil => simp [step1] at hrun
          | cons x st =>
            simp only [step1] at hrun
            have HWX : Aside0 (In64 x) := ⟨HWS.out x (by simp)⟩
            by_cases hyd : y = 0 ∧ divides by_
            · rw [if_pos hyd] at hrun
              have HRN : Aside0 (Out.err 12 pos (steps + 1) = r) := ⟨by simpa using hrun⟩
              have hye : (y == 0) = true := by rw [beq_iff_eq]; exact hyd.1
              by_cases h47 : by_ = [47]
              · have hb47 : ((mk by_).toList == [47]) = true := by rw [mk_toList, beq_iff_eq]; exact h47
                clear hyd h47
                clear hrun
                go_wp2_with fail
                with_reducible refine (pop_calls w0.heap.size gm pv ⟨at_ + 1, y :: x :: st, set, steps + 1⟩ y (x :: st) _ HM1.out rfl (by first | omega | (simp at hst ⊢; omega))).mono ?_
                rintro e w2 ⟨rfl, hm2, hk2⟩
                have HM2 := Aside0.mk hm2
                have HB2 := Aside0.mk (hk2.below0 (HB1.out))
                have hbx_w2 := hk2.block wr.heap.size _ HX1.out (by intro cs; simp) (by omega)
                have bx_w2_0 : w2.cell? ⟨wr.heap.size, 0, none⟩ = some (.int .i64 oi) := (blk_cell hbx_w2 0).trans rfl
                have bx_w2_1 : w2.cell? ⟨wr.heap.size, 1, none⟩ = some (.int .i64 n) := (blk_cell hbx_w2 1).trans rfl
                have bx_w2_2 : w2.cell? ⟨wr.heap.size, 2, none⟩ = some (.string (mk name)) := (blk_cell hbx_w2 2).trans rfl
                have bx_w2_3 : w2.cell? ⟨wr.heap.size, 3, none⟩ = some (.string (mk by_)) := (blk_cell hbx_w2 3).trans rfl
                have bx_w2_4 : w2.cell? ⟨wr.heap.size, 4, none⟩ = some (.int .i64 (pos : Int)) := (blk_cell hbx_w2 4).trans rfl
                have bx_w2_5 : w2.cell? ⟨wr.heap.size, 5, none⟩ = some (.int .i64 (dest : Int)) := (blk_cell hbx_w2 5).trans rfl
                have lt_w2 := blk_lt hbx_w2
                have HX2 := Aside0.mk hbx_w2
                clear hm2 hk2 hbx_w2
                go_wp2_with fail
                with_reducible refine (pop_calls w0.heap.size gm pv ⟨at_ + 1, x :: st, set, steps + 1⟩ x (st) _ HM2.out rfl (by first | omega | (simp at hst ⊢; omega))).mono ?_
                rintro e w3 ⟨rfl, hm3, hk3⟩
                have HM3 := Aside0.mk hm3
                have HB3 := Aside0.mk (hk3.below0 (HB2.out))
                have hbx_w3 := hk3.block wr.heap.size _ HX2.out (by intro cs; simp) (by omega)
                have bx_w3_0 : w3.cell? ⟨wr.heap.size, 0, none⟩ = some (.int .i64 oi) := (blk_cell hbx_w3 0).trans rfl
                have bx_w3_1 : w3.cell? ⟨wr.heap.size, 1, none⟩ = some (.int .i64 n) := (blk_cell hbx_w3 1).trans rfl
                have bx_w3_2 : w3.cell? ⟨wr.heap.size, 2, none⟩ = some (.string (mk name)) := (blk_cell hbx_w3 2).trans rfl
                have bx_w3_3 : w3.cell? ⟨wr.heap.size, 3, none⟩ = some (.string (mk by_)) := (blk_cell hbx_w3 3).trans rfl
                have bx_w3_4 : w3.cell? ⟨wr.heap.size, 4, none⟩ = some (.int .i64 (pos : Int)) := (blk_cell hbx_w3 4).trans rfl
                have bx_w3_5 : w3.cell? ⟨wr.heap.size, 5, none⟩ = some (.int .i64 (dest : Int)) := (blk_cell hbx_w3 5).trans rfl
                have lt_w3 := blk_lt hbx_w3
                have HX3 := Aside0.mk hbx_w3
                clear hm3 hk3 hbx_w3
                go_wp2_with fail
                with_reducible refine (afail_calls E 12 pos _ _ (by omega) rfl _ (HE.out.below HB3.out) (by omega) (by omega)).mono ?_
                rintro e w4 ⟨v4, rfl, hev, hb4⟩
                have HB4 := Aside0.mk (HB3.out.trans (hb4.mono HB3.out.size))
                have HM4 := Aside0.mk (HM3.out.below hb4)
                have HEV := Aside0.mk hev
                clear hev hb4
                go_wp2_with fail
                go_ret2
                rw [← HRN.out]
                exact ⟨HB4.out, _, rfl, HEV.out, _, rfl, HM4.out⟩
              · have hb47 : ((mk by_).toList == [47]) = false := by rw [mk_toList, beq_eq_false_iff_ne]; exact h47
                have hb37 : ((mk by_).toList == [37]) = true := by rw [mk_toList, beq_iff_eq]; rcases hyd.2 with h | h; exact absurd h h47; exact h
                clear hyd h47
                clear hrun
                go_wp2_with fail
                with_reducible refine (pop_calls w0.heap.size gm pv ⟨at_ + 1, y :: x :: st, set, steps + 1⟩ y (x :: st) _ HM1.out rfl (by first | omega | (simp at hst ⊢; omega))).mono ?_
                rintro e w2 ⟨rfl, hm2, hk2⟩
                have HM2 := Aside0.mk hm2
                have HB2 := Aside0.mk (hk2.below0 (HB1.out))
                have hbx_w2 := hk2.block wr.heap.size _ HX1.out (by intro cs; simp) (by omega)
                have bx_w2_0 : w2.cell? ⟨wr.heap.size, 0, none⟩ = some (.int .i64 oi) := (blk_cell hbx_w2 0).trans rfl
                have bx_w2_1 : w2.cell? ⟨wr.heap.size, 1, none⟩ = some (.int .i64 n) := (blk_cell hbx_w2 1).trans rfl
                have bx_w2_2 : w2.cell? ⟨wr.heap.size, 2, none⟩ = some (.string (mk name)) := (blk_cell hbx_w2 2).trans rfl
                have bx_w2_3 : w2.cell? ⟨wr.heap.size, 3, none⟩ = some (.string (mk by_)) := (blk_cell hbx_w2 3).trans rfl
                have bx_w2_4 : w2.cell? ⟨wr.heap.size, 4, none⟩ = some (.int .i64 (pos : Int)) := (blk_cell hbx_w2 4).trans rfl
                have bx_w2_5 : w2.cell? ⟨wr.heap.size, 5, none⟩ = some (.int .i64 (dest : Int)) := (blk_cell hbx_w2 5).trans rfl
                have lt_w2 := blk_lt hbx_w2
                have HX2 := Aside0.mk hbx_w2
                clear hm2 hk2 hbx_w2
                go_wp2_with fail
                with_reducible refine (pop_calls w0.heap.size gm pv ⟨at_ + 1, x :: st, set, steps + 1⟩ x (st) _ HM2.out rfl (by first | omega | (simp at hst ⊢; omega))).mono ?_
                rintro e w3 ⟨rfl, hm3, hk3⟩
                have HM3 := Aside0.mk hm3
                have HB3 := Aside0.mk (hk3.below0 (HB2.out))
                have hbx_w3 := hk3.block wr.heap.size _ HX2.out (by intro cs; simp) (by omega)
                have bx_w3_0 : w3.cell? ⟨wr.heap.size, 0, none⟩ = some (.int .i64 oi) := (blk_cell hbx_w3 0).trans rfl
                have bx_w3_1 : w3.cell? ⟨wr.heap.size, 1, none⟩ = some (.int .i64 n) := (blk_cell hbx_w3 1).trans rfl
                have bx_w3_2 : w3.cell? ⟨wr.heap.size, 2, none⟩ = some (.string (mk name)) := (blk_cell hbx_w3 2).trans rfl
                have bx_w3_3 : w3.cell? ⟨wr.heap.size, 3, none⟩ = some (.string (mk by_)) := (blk_cell hbx_w3 3).trans rfl
                have bx_w3_4 : w3.cell? ⟨wr.heap.size, 4, none⟩ = some (.int .i64 (pos : Int)) := (blk_cell hbx_w3 4).trans rfl
                have bx_w3_5 : w3.cell? ⟨wr.heap.size, 5, none⟩ = some (.int .i64 (dest : Int)) := (blk_cell hbx_w3 5).trans rfl
                have lt_w3 := blk_lt hbx_w3
                have HX3 := Aside0.mk hbx_w3
                clear hm3 hk3 hbx_w3
                go_wp2_with fail
                with_reducible refine (afail_calls E 12 pos _ _ (by omega) rfl _ (HE.out.below HB3.out) (by omega) (by omega)).mono ?_
                rintro e w4 ⟨v4, rfl, hev, hb4⟩
                have HB4 := Aside0.mk (HB3.out.trans (hb4.mono HB3.out.size))
                have HM4 := Aside0.mk (HM3.out.below hb4)
                have HEV := Aside0.mk hev
                clear hev hb4
                go_wp2_with fail
                go_ret2
                rw [← HRN.out]
                exact ⟨HB4.out, _, rfl, HEV.out, _, rfl, HM4.out⟩
            · rw [if_neg hyd] at hrun
              have HRN : Aside0 (exec (mach m) L k ⟨at_ + 1, two by_ x y :: st, set, steps + 1⟩ = some r) := ⟨by simpa [mach] using hrun⟩
              have HND := Aside0.mk hyd
              by_cases hy0 : y = 0
              · have hye : (y == 0) = true := by rw [beq_iff_eq]; exact hy0
                have hb47 : ((mk by_).toList == [47]) = false := by rw [mk_toList, beq_eq_false_iff_ne]; exact fun h => hyd ⟨hy0, .inl h⟩
                have hb37 : ((mk by_).toList == [37]) = false := by rw [mk_toList, beq_eq_false_iff_ne]; exact fun h => hyd ⟨hy0, .inr h⟩
                clear hyd hy0
                clear hrun
                go_wp2_with fail
                with_reducible refine (pop_calls w0.heap.size gm pv ⟨at_ + 1, y :: x :: st, set, steps + 1⟩ y (x :: st) _ HM1.out rfl (by first | omega | (simp at hst ⊢; omega))).mono ?_
                rintro e w2 ⟨rfl, hm2, hk2⟩
                have HM2 := Aside0.mk hm2
                have HB2 := Aside0.mk (hk2.below0 (HB1.out))
                have hbx_w2 := hk2.block wr.heap.size _ HX1.out (by intro cs; simp) (by omega)
                have bx_w2_0 : w2.cell? ⟨wr.heap.size, 0, none⟩ = some (.int .i64 oi) := (blk_cell hbx_w2 0).trans rfl
                have bx_w2_1 : w2.cell? ⟨wr.heap.size, 1, none⟩ = some (.int .i64 n) := (blk_cell hbx_w2 1).trans rfl
                have bx_w2_2 : w2.cell? ⟨wr.heap.size, 2, none⟩ = some (.string (mk name)) := (blk_cell hbx_w2 2).trans rfl
                have bx_w2_3 : w2.cell? ⟨wr.heap.size, 3, none⟩ = some (.string (mk by_)) := (blk_cell hbx_w2 3).trans rfl
                have bx_w2_4 : w2.cell? ⟨wr.heap.size, 4, none⟩ = some (.int .i64 (pos : Int)) := (blk_cell hbx_w2 4).trans rfl
                have bx_w2_5 : w2.cell? ⟨wr.heap.size, 5, none⟩ = some (.int .i64 (dest : Int)) := (blk_cell hbx_w2 5).trans rfl
                have lt_w2 := blk_lt hbx_w2
                have HX2 := Aside0.mk hbx_w2
                clear hm2 hk2 hbx_w2
                go_wp2_with fail
                with_reducible refine (pop_calls w0.heap.size gm pv ⟨at_ + 1, x :: st, set, steps + 1⟩ x (st) _ HM2.out rfl (by first | omega | (simp at hst ⊢; omega))).mono ?_
                rintro e w3 ⟨rfl, hm3, hk3⟩
                have HM3 := Aside0.mk hm3
                have HB3 := Aside0.mk (hk3.below0 (HB2.out))
                have hbx_w3 := hk3.block wr.heap.size _ HX2.out (by intro cs; simp) (by omega)
                have bx_w3_0 : w3.cell? ⟨wr.heap.size, 0, none⟩ = some (.int .i64 oi) := (blk_cell hbx_w3 0).trans rfl
                have bx_w3_1 : w3.cell? ⟨wr.heap.size, 1, none⟩ = some (.int .i64 n) := (blk_cell hbx_w3 1).trans rfl
                have bx_w3_2 : w3.cell? ⟨wr.heap.size, 2, none⟩ = some (.string (mk name)) := (blk_cell hbx_w3 2).trans rfl
                have bx_w3_3 : w3.cell? ⟨wr.heap.size, 3, none⟩ = some (.string (mk by_)) := (blk_cell hbx_w3 3).trans rfl
                have bx_w3_4 : w3.cell? ⟨wr.heap.size, 4, none⟩ = some (.int .i64 (pos : Int)) := (blk_cell hbx_w3 4).trans rfl
                have bx_w3_5 : w3.cell? ⟨wr.heap.size, 5, none⟩ = some (.int .i64 (dest : Int)) := (blk_cell hbx_w3 5).trans rfl
                have lt_w3 := blk_lt hbx_w3
                have HX3 := Aside0.mk hbx_w3
                clear hm3 hk3 hbx_w3
                go_wp2_with fail
                with_reducible refine (two_calls by_ x y HND.out HWX.out _).mono ?_
                rintro e w4 ⟨rfl, ⟨nd, rfl⟩⟩
                go_wp2_with fail
                with_reducible refine (push_in w0.heap.size gm pv ⟨at_ + 1, st, set, steps + 1⟩ (two by_ x y) _ (HM3.out.drewN _) (by first | omega | (simp only [List.length_cons] at hst ⊢; omega)) (two_some by_ x y HND.out HWX.out).2).mono ?_
                rintro e w5 ⟨rfl, hm5, hk5⟩
                have HM5 := Aside0.mk hm5
                have HB5 := Aside0.mk (hk5.below0 (pw_below_drewN HB3.out _))
                clear hm5 hk5
                go_wp2_with fail
                go_roundg k
                case measure => omega
                case rel => exact ⟨⟨at_ + 1, two by_ x y :: st, set, steps + 1⟩, by go_num, ⟨⟨HRN.out, HM5.out, HB5.out, by simp only [List.length_cons] at hst ⊢; omega, by simp only; omega, by simp only; omega, HSM.out, by simp only; omega, HNS.out⟩⟩⟩
              · have hye : (y == 0) = false := by rw [beq_eq_false_iff_ne]; exact hy0
                clear hyd hy0
                clear hrun
                go_wp2_with fail
                with_reducible refine (pop_calls w0.heap.size gm pv ⟨at_ + 1, y :: x :: st, set, steps + 1⟩ y (x :: st) _ HM1.out rfl (by first | omega | (simp at hst ⊢; omega))).mono ?_
                rintro e w2 ⟨rfl, hm2, hk2⟩
                have HM2 := Aside0.mk hm2
                have HB2 := Aside0.mk (hk2.below0 (HB1.out))
                have hbx_w2 := hk2.block wr.heap.size _ HX1.out (by intro cs; simp) (by omega)
                have bx_w2_0 : w2.cell? ⟨wr.heap.size, 0, none⟩ = some (.int .i64 oi) := (blk_cell hbx_w2 0).trans rfl
                have bx_w2_1 : w2.cell? ⟨wr.heap.size, 1, none⟩ = some (.int .i64 n) := (blk_cell hbx_w2 1).trans rfl
                have bx_w2_2 : w2.cell? ⟨wr.heap.size, 2, none⟩ = some (.string (mk name)) := (blk_cell hbx_w2 2).trans rfl
                have bx_w2_3 : w2.cell? ⟨wr.heap.size, 3, none⟩ = some (.string (mk by_)) := (blk_cell hbx_w2 3).trans rfl
                have bx_w2_4 : w2.cell? ⟨wr.heap.size, 4, none⟩ = some (.int .i64 (pos : Int)) := (blk_cell hbx_w2 4).trans rfl
                have bx_w2_5 : w2.cell? ⟨wr.heap.size, 5, none⟩ = some (.int .i64 (dest : Int)) := (blk_cell hbx_w2 5).trans rfl
                have lt_w2 := blk_lt hbx_w2
                have HX2 := Aside0.mk hbx_w2
                clear hm2 hk2 hbx_w2
                go_wp2_with fail
                with_reducible refine (pop_calls w0.heap.size gm pv ⟨at_ + 1, x :: st, set, steps + 1⟩ x (st) _ HM2.out rfl (by first | omega | (simp at hst ⊢; omega))).mono ?_
                rintro e w3 ⟨rfl, hm3, hk3⟩
                have HM3 := Aside0.mk hm3
                have HB3 := Aside0.mk (hk3.below0 (HB2.out))
                have hbx_w3 := hk3.block wr.heap.size _ HX2.out (by intro cs; simp) (by omega)
                have bx_w3_0 : w3.cell? ⟨wr.heap.size, 0, none⟩ = some (.int .i64 oi) := (blk_cell hbx_w3 0).trans rfl
                have bx_w3_1 : w3.cell? ⟨wr.heap.size, 1, none⟩ = some (.int .i64 n) := (blk_cell hbx_w3 1).trans rfl
                have bx_w3_2 : w3.cell? ⟨wr.heap.size, 2, none⟩ = some (.string (mk name)) := (blk_cell hbx_w3 2).trans rfl
                have bx_w3_3 : w3.cell? ⟨wr.heap.size, 3, none⟩ = some (.string (mk by_)) := (blk_cell hbx_w3 3).trans rfl
                have bx_w3_4 : w3.cell? ⟨wr.heap.size, 4, none⟩ = some (.int .i64 (pos : Int)) := (blk_cell hbx_w3 4).trans rfl
                have bx_w3_5 : w3.cell? ⟨wr.heap.size, 5, none⟩ = some (.int .i64 (dest : Int)) := (blk_cell hbx_w3 5).trans rfl
                have lt_w3 := blk_lt hbx_w3
                have HX3 := Aside0.mk hbx_w3
                clear hm3 hk3 hbx_w3
                go_wp2_with fail
                with_reducible refine (two_calls by_ x y HND.out HWX.out _).mono ?_
                rintro e w4 ⟨rfl, ⟨nd, rfl⟩⟩
                go_wp2_with fail
                with_reducible refine (push_in w0.heap.size gm pv ⟨at_ + 1, st, set, steps + 1⟩ (two by_ x y) _ (HM3.out.drewN _) (by first | omega | (simp only [List.length_cons] at hst ⊢; omega)) (two_some by_ x y HND.out HWX.out).2).mono ?_
                rintro e w5 ⟨rfl, hm5, hk5⟩
                have HM5 := Aside0.mk hm5
                have HB5 := Aside0.mk (hk5.below0 (pw_below_drewN HB3.out _))
                clear hm5 hk5
                go_wp2_with fail
                go_roundg k
                case measure => omega
                case rel => exact ⟨⟨at_ + 1, two by_ x y :: st, set, steps + 1⟩, by go_num, ⟨⟨HRN.out, HM5.out, HB5.out, by simp only [List.length_cons] at hst ⊢; omega, by simp only; omega, by simp only; omega, HSM.out, by simp only; omega, HNS.out⟩⟩⟩
      by_cases h5 : op = 5
      · subst h5
        have e0 : (oi == 0) = false := by rw [beq_eq_false_iff_ne]; omega
        have e1 : (oi == 1) = false := by rw [beq_eq_false_iff_ne]; omega
        have e2 : (oi == 2) = false := by rw [beq_eq_false_iff_ne]; omega
        have e3 : (oi == 3) = false := by rw [beq_eq_false_iff_ne]; omega
        have e4 : (oi == 4) = false := by rw [beq_eq_false_iff_ne]; omega
        have e5 : (oi == 5) = true := by rw [beq_iff_eq]; omega
        have HOI := Aside0.mk hoi
        clear hoi
        cases stack with
        | nil => simp [step1] at hrun
        | cons x st =>
          have HRN : Aside0 (exec (mach m) L k ⟨at_ + 1, tr (x != 0) :: st, set, steps + 1⟩ = some r) := ⟨by simpa [step1] using hrun⟩
          clear hrun
          go_wp2_with fail
          with_reducible refine (pop_calls w0.heap.size gm pv ⟨at_ + 1, x :: st, set, steps + 1⟩ x (st) _ HM1.out rfl (by first | omega | (simp at hst ⊢; omega))).mono ?_
          rintro e w2 ⟨rfl, hm2, hk2⟩
          have HM2 := Aside0.mk hm2
          have HB2 := Aside0.mk (hk2.below0 (HB1.out))
          have hbx_w2 := hk2.block wr.heap.size _ HX1.out (by intro cs; simp) (by omega)
          have bx_w2_0 : w2.cell? ⟨wr.heap.size, 0, none⟩ = some (.int .i64 oi) := (blk_cell hbx_w2 0).trans rfl
          have bx_w2_1 : w2.cell? ⟨wr.heap.size, 1, none⟩ = some (.int .i64 n) := (blk_cell hbx_w2 1).trans rfl
          have bx_w2_2 : w2.cell? ⟨wr.heap.size, 2, none⟩ = some (.string (mk name)) := (blk_cell hbx_w2 2).trans rfl
          have bx_w2_3 : w2.cell? ⟨wr.heap.size, 3, none⟩ = some (.string (mk by_)) := (blk_cell hbx_w2 3).trans rfl
          have bx_w2_4 : w2.cell? ⟨wr.heap.size, 4, none⟩ = some (.int .i64 (pos : Int)) := (blk_cell hbx_w2 4).trans rfl
          have bx_w2_5 : w2.cell? ⟨wr.heap.size, 5, none⟩ = some (.int .i64 (dest : Int)) := (blk_cell hbx_w2 5).trans rfl
          have lt_w2 := blk_lt hbx_w2
          have HX2 := Aside0.mk hbx_w2
          clear hm2 hk2 hbx_w2
          go_wp2_with fail
          with_reducible refine (truth_calls _ _).mono ?_
          rintro e w3 ⟨rfl, ⟨nd, rfl⟩⟩
          go_wp2_with fail
          with_reducible refine (push_in w0.heap.size gm pv ⟨at_ + 1, st, set, steps + 1⟩ (tr (x != 0)) _ (HM2.out.drewN _) (by first | omega | (simp only [List.length_cons] at hst ⊢; omega)) (in_tr _)).mono ?_
          rintro e w4 ⟨rfl, hm4, hk4⟩
          have HM4 := Aside0.mk hm4
          have HB4 := Aside0.mk (hk4.below0 (pw_below_drewN HB2.out _))
          clear hm4 hk4
          go_wp2_with fail
          go_roundg k
          case measure => omega
          case rel => exact ⟨⟨at_ + 1, tr (x != 0) :: st, set, steps + 1⟩, by go_num, ⟨⟨HRN.out, HM4.out, HB4.out, by simp only [List.length_cons] at hst ⊢; omega, by simp only; omega, by simp only; omega, HSM.out, by simp only; omega, HNS.out⟩⟩⟩
      by_cases h7 : op = 7
      · subst h7
        have e0 : (oi == 0) = false := by rw [beq_eq_false_iff_ne]; omega
        have e1 : (oi == 1) = false := by rw [beq_eq_false_iff_ne]; omega
        have e2 : (oi == 2) = false := by rw [beq_eq_false_iff_ne]; omega
        have e3 : (oi == 3) = false := by rw [beq_eq_false_iff_ne]; omega
        have e4 : (oi == 4) = false := by rw [beq_eq_false_iff_ne]; omega
        have e5 : (oi == 5) = false := by rw [beq_eq_false_iff_ne]; omega
        have e7 : (oi == 7) = true := by rw [beq_iff_eq]; omega
        have HOI := Aside0.mk hoi
        clear hoi
        have HRN : Aside0 (exec (mach m) L k ⟨dest, stack, set, steps + 1⟩ = some r) := ⟨by simpa [step1] using hrun⟩
        clear hrun
        go_wp2_with fail
        go_roundg k
        case measure => omega
        case rel => exact ⟨⟨dest, stack, set, steps + 1⟩, rfl, ⟨⟨HRN.out, HM1.out.re _, HB1.out, by simp only at hst ⊢; omega, by simp only; omega, hdst, HSM.out, by simp only; omega, HNS.out⟩⟩⟩
      by_cases h8 : op = 8
      · subst h8
        have e0 : (oi == 0) = false := by rw [beq_eq_false_iff_ne]; omega
        have e1 : (oi == 1) = false := by rw [beq_eq_false_iff_ne]; omega
        have e2 : (oi == 2) = false := by rw [beq_eq_false_iff_ne]; omega
        have e3 : (oi == 3) = false := by rw [beq_eq_false_iff_ne]; omega
        have e4 : (oi == 4) = false := by rw [beq_eq_false_iff_ne]; omega
        have e5 : (oi == 5) = false := by rw [beq_eq_false_iff_ne]; omega
        have e7 : (oi == 7) = false := by rw [beq_eq_false_iff_ne]; omega
        have e8 : (oi == 8) = true := by rw [beq_iff_eq]; omega
        have HOI := Aside0.mk hoi
        clear hoi
        cases stack with
        | nil => simp [step1] at hrun
        | cons x st =>
          by_cases hx0' : x = 0
          · have HRN : Aside0 (exec (mach m) L k ⟨dest, st, set, steps + 1⟩ = some r) := ⟨by simpa [step1, hx0'] using hrun⟩
            have hxe : (x == 0) = true := by rw [beq_iff_eq]; exact hx0'
            clear hrun hx0'
            go_wp2_with fail
            with_reducible refine (pop_calls w0.heap.size gm pv ⟨at_ + 1, x :: st, set, steps + 1⟩ x (st) _ HM1.out rfl (by first | omega | (simp at hst ⊢; omega))).mono ?_
            rintro e w2 ⟨rfl, hm2, hk2⟩
            have HM2 := Aside0.mk hm2
            have HB2 := Aside0.mk (hk2.below0 (HB1.out))
            have hbx_w2 := hk2.block wr.heap.size _ HX1.out (by intro cs; simp) (by omega)
            have bx_w2_0 : w2.cell? ⟨wr.heap.size, 0, none⟩ = some (.int .i64 oi) := (blk_cell hbx_w2 0).trans rfl
            have bx_w2_1 : w2.cell? ⟨wr.heap.size, 1, none⟩ = some (.int .i64 n) := (blk_cell hbx_w2 1).trans rfl
            have bx_w2_2 : w2.cell? ⟨wr.heap.size, 2, none⟩ = some (.string (mk name)) := (blk_cell hbx_w2 2).trans rfl
            have bx_w2_3 : w2.cell? ⟨wr.heap.size, 3, none⟩ = some (.string (mk by_)) := (blk_cell hbx_w2 3).trans rfl
            have bx_w2_4 : w2.cell? ⟨wr.heap.size, 4, none⟩ = some (.int .i64 (pos : Int)) := (blk_cell hbx_w2 4).trans rfl
            have bx_w2_5 : w2.cell? ⟨wr.heap.size, 5, none⟩ = some (.int .i64 (dest : Int)) := (blk_cell hbx_w2 5).trans rfl
            have lt_w2 := blk_lt hbx_w2
            have HX2 := Aside0.mk hbx_w2
            clear hm2 hk2 hbx_w2
            go_wp2_with fail
            go_roundg k
            case measure => omega
            case rel => exact ⟨⟨dest, st, set, steps + 1⟩, rfl, ⟨⟨HRN.out, HM2.out.re _, HB2.out, by simp only [List.length_cons] at hst ⊢; omega, by simp only; omega, hdst, HSM.out, by simp only; omega, HNS.out⟩⟩⟩
          · have HRN : Aside0 (exec (mach m) L k ⟨at_ + 1, st, set, steps + 1⟩ = some r) := ⟨by simpa [step1, hx0'] using hrun⟩
            have hxe : (x == 0) = false := by rw [beq_eq_false_iff_ne]; exact hx0'
            clear hrun hx0'
            go_wp2_with fail
            with_reducible refine (pop_calls w0.heap.size gm pv ⟨at_ + 1, x :: st, set, steps + 1⟩ x (st) _ HM1.out rfl (by first | omega | (simp at hst ⊢; omega))).mono ?_
            rintro e w2 ⟨rfl, hm2, hk2⟩
            have HM2 := Aside0.mk hm2
            have HB2 := Aside0.mk (hk2.below0 (HB1.out))
            have hbx_w2 := hk2.block wr.heap.size _ HX1.out (by intro cs; simp) (by omega)
            have bx_w2_0 : w2.cell? ⟨wr.heap.size, 0, none⟩ = some (.int .i64 oi) := (blk_cell hbx_w2 0).trans rfl
            have bx_w2_1 : w2.cell? ⟨wr.heap.size, 1, none⟩ = some (.int .i64 n) := (blk_cell hbx_w2 1).trans rfl
            have bx_w2_2 : w2.cell? ⟨wr.heap.size, 2, none⟩ = some (.string (mk name)) := (blk_cell hbx_w2 2).trans rfl
            have bx_w2_3 : w2.cell? ⟨wr.heap.size, 3, none⟩ = some (.string (mk by_)) := (blk_cell hbx_w2 3).trans rfl
            have bx_w2_4 : w2.cell? ⟨wr.heap.size, 4, none⟩ = some (.int .i64 (pos : Int)) := (blk_cell hbx_w2 4).trans rfl
            have bx_w2_5 : w2.cell? ⟨wr.heap.size, 5, none⟩ = some (.int .i64 (dest : Int)) := (blk_cell hbx_w2 5).trans rfl
            have lt_w2 := blk_lt hbx_w2
            have HX2 := Aside0.mk hbx_w2
            clear hm2 hk2 hbx_w2
            go_wp2_with fail
            go_roundg k
            case measure => omega
            case rel => exact ⟨⟨at_ + 1, st, set, steps + 1⟩, by go_num, ⟨⟨HRN.out, HM2.out, HB2.out, by simp only [List.length_cons] at hst ⊢; omega, by simp only; omega, by simp only; omega, HSM.out, by simp only; omega, HNS.out⟩⟩⟩
      rw [step1_stuck _ ⟨op, n, name, by_, pos, dest⟩ _ h0 h1 h2 h3 h4 h5 h7 h8] at hrun
      exact absurd hrun (by simp)
end Go.Proofs.YtjllmamblkejjaaGreatDoor
end

/- (*arith.Expr).Tree, acode.Compile, (*acode.Code).Len. No conditions. -/
section
set_option linter.unusedVariables false
set_option linter.unusedSimpArgs false
namespace Go.Proofs.YtjllmamblkejjaaGreatDoor
open Go.RowKit Go.Proofs.YtjllmamblkejjaaGreatDoorW.PrintWords Go.Proofs.YtjllmamblkejjaaGreatDoorW.PrintLast Go.Proofs.YtjllmamblkejjaaGreatDoorW.PrintMore
open PQA Sp

set_option maxHeartbeats 4000000 in
set_option maxRecDepth 100000 in
theorem tree_calls (q lo : Nat) (ex : Ex) (t0 : ByteArray) (m1 : Int) (t2 : ByteArray) (m3 m4 : Int) (AA : Option Addr) (ll cc : Nat) (w : World) (hq : w.heap[q]? = some (.cells #[.string t0, .int .i64 m1, .string t2, .int .i64 m3, .int .i64 m4, .slice AA ll cc] 80 (0, 0))) (hT : Tr w lo ex [.string t0, .int .i64 m1, .string t2, .int .i64 m3, .int .i64 m4, .slice AA ll cc]) :
    Calls Tryz.prog 50 #[.pointer (some ⟨q, 0, none⟩)] w fun e w' => (∃ (s0 : ByteArray) (n1 : Int) (s2 : ByteArray) (n3 n4 : Int) (A : Option Addr) (n c : Nat), e = .returned (.agg #[.string s0, .int .i64 n1, .string s2, .int .i64 n3, .int .i64 n4, .slice A n c]) ∧ Tr w' w.heap.size ex [.string s0, .int .i64 n1, .string s2, .int .i64 n3, .int .i64 n4, .slice A n c]) ∧ Below w.heap.size w w' := by
  have hx0 : w.cell? ⟨q, 0, none⟩ = some (.string t0) := (blk_cell hq 0).trans rfl
  have hx1 : w.cell? ⟨q, 1, none⟩ = some (.int .i64 m1) := (blk_cell hq 1).trans rfl
  have hx2 : w.cell? ⟨q, 2, none⟩ = some (.string t2) := (blk_cell hq 2).trans rfl
  have hx3 : w.cell? ⟨q, 3, none⟩ = some (.int .i64 m3) := (blk_cell hq 3).trans rfl
  have hx4 : w.cell? ⟨q, 4, none⟩ = some (.int .i64 m4) := (blk_cell hq 4).trans rfl
  have hx5 : w.cell? ⟨q, 5, none⟩ = some (.slice AA ll cc) := (blk_cell hq 5).trans rfl
  have hlt := blk_lt hq
  have HTT := Aside0.mk hT
  have HT := Aside0.mk (fun o : Obj => tr_alloc hT o)
  clear hT hq
  go_enter Tryz.func50, Tryz.ntmps50
  go_wp2_with fail
  with_reducible refine (copied_calls ex lo [.string t0, .int .i64 m1, .string t2, .int .i64 m3, .int .i64 m4, .slice AA ll cc] _ (HT.out _)).mono ?_
  rintro e w1 ⟨⟨u0, l1, u2, l3, l4, AB, lb, cb, rfl, hTr⟩, hb⟩
  have hr := (hb.block w.heap.size (by simp)).trans (heap_new (w := w) (W := w) rfl _)
  have hlr := blk_lt hr
  have hf0 := blk_frozen hr 0
  have hf1 := blk_frozen hr 1
  have hf2 := blk_frozen hr 2
  have hf3 := blk_frozen hr 3
  have hf4 := blk_frozen hr 4
  have hf5 := blk_frozen hr 5
  have hd0 := (blk_cell hr 0).trans rfl
  have hd1 := (blk_cell hr 1).trans rfl
  have hd2 := (blk_cell hr 2).trans rfl
  have hd3 := (blk_cell hr 3).trans rfl
  have hd4 := (blk_cell hr 4).trans rfl
  have hd5 := (blk_cell hr 5).trans rfl
  have HR := Aside0.mk hr
  have HTr := Aside0.mk hTr
  have HB := Aside0.mk hb
  clear hr hTr hb
  go_wp2_with fail
  refine ret_gen fun W hW => ?_
  have hRes := (congrArg (fun x : World => x.heap[w.heap.size]?) hW).trans (blk_six HR.out _ _ _ _ _ _)
  have hKW : KeepBut w1 W w.heap.size none := by
    rw [hW]
    repeat (first | (with_reducible exact KeepBut.refl _ _ _) | (with_reducible apply KeepBut.set_))
  have hB1 : Below w.heap.size w w1 := below_then (below_alloc (Below.refl _ _) _) (by simp) HB.out
  have hBW : Below w.heap.size w W := by
    rw [hW]
    exact (((((hB1.setCell (Nat.le_refl _) _).setCell (Nat.le_refl _) _).setCell (Nat.le_refl _) _).setCell (Nat.le_refl _) _).setCell (Nat.le_refl _) _).setCell (Nat.le_refl _) _
  have hq0 := (blk_cell hRes 0).trans rfl; have hq1 := (blk_cell hRes 1).trans rfl; have hq2 := (blk_cell hRes 2).trans rfl; have hq3 := (blk_cell hRes 3).trans rfl; have hq4 := (blk_cell hRes 4).trans rfl; have hq5 := (blk_cell hRes 5).trans rfl
  clear hW
  have hTW : Tr W (w.heap.size + 1) ex [.string u0, .int .i64 l1, .string u2, .int .i64 l3, .int .i64 l4, .slice AB lb cb] := by
    have h := HTr.out
    simp only [World.size_alloc] at h
    exact Tr.keep (fun k _ hP hk => hKW.2 k (blk_lt hk) (by omega) (by simp)) _ _ h
  refine bodyPost_ret (v := .agg #[.string u0, .int .i64 l1, .string u2, .int .i64 l3, .int .i64 l4, .slice AB lb cb]) (by simp [results, Tryz.results50, go_sem, hq0, hq1, hq2, hq3, hq4, hq5]; try rfl) rfl ⟨⟨_, _, _, _, _, _, _, _, rfl, Tr.lo (by omega) _ _ hTW⟩, hBW⟩
set_option maxHeartbeats 4000000 in
theorem compile_nil (w : World) : Calls Tryz.prog 26 #[.pointer none] w fun e w' => e = .returned (.pointer none) ∧ w = w' := by
  go_enter Tryz.func26, Tryz.ntmps26
  go_wp2_with fail
  go_ret
  exact ⟨rfl, rfl⟩
set_option maxHeartbeats 4000000 in
set_option maxRecDepth 100000 in
theorem compile_calls (q lo : Nat) (ex : Ex) (hwf : Wf ex) (hsz : sz ex ≤ 20000) (t0 : ByteArray) (m1 : Int) (t2 : ByteArray) (m3 m4 : Int) (AA : Option Addr) (ll cc : Nat) (w : World) (hq : w.heap[q]? = some (.cells #[.string t0, .int .i64 m1, .string t2, .int .i64 m3, .int .i64 m4, .slice AA ll cc] 80 (0, 0))) (hT : Tr w lo ex [.string t0, .int .i64 m1, .string t2, .int .i64 m3, .int .i64 m4, .slice AA ll cc]) :
    Calls Tryz.prog 26 #[.pointer (some ⟨q, 0, none⟩)] w fun e w' => e = .returned (.pointer (some ⟨w.heap.size, 0, none⟩)) ∧ CodeAt w' w.heap.size w.heap.size (put [] ex) ∧ Below w.heap.size w w' := by
  have HQ := Aside0.mk (blk_alloc hq (.cells #[.slice none 0 0] 105))
  have HT := Aside0.mk (tr_alloc hT (.cells #[.slice none 0 0] 105))
  have HP := Aside0.mk (put_all w.heap.size w.heap.size ex hwf)
  have hlt := blk_lt hq
  clear hq hT hwf
  go_enter Tryz.func26, Tryz.ntmps26
  go_wp2_with fail
  with_reducible refine (tree_calls q lo ex t0 m1 t2 m3 m4 AA ll cc _ HQ.out HT.out).mono ?_
  rintro e w1 ⟨⟨s0, n1, s2, n3, n4, A, n, c, rfl, hTr⟩, hb⟩
  have hg := (hb.block w.heap.size (by simp)).trans (heap_new (w := w) (W := w) rfl _)
  have hb1 : Below w.heap.size w w1 := below_then (below_alloc (Below.refl _ _) _) (by simp) hb
  have HC := Aside0.mk (CodeAt.mk (w := w1) (base := w.heap.size) (g := w.heap.size) (l := []) ⟨_, hg, ⟨rfl, .inl ⟨rfl, rfl⟩⟩, fun _ => rfl⟩ (Nat.le_refl _))
  have HTr := Aside0.mk hTr
  have HB := Aside0.mk hb1
  clear hg hTr hb hb1
  go_wp2_with fail
  with_reducible refine (put_cs HP.out (CS.refl HC.out) (by simp; omega) _ _ _ _ _ _ _ HTr.out).mono ?_
  rintro e w2 ⟨rfl, hc⟩
  go_wp2_with fail
  go_ret
  exact ⟨rfl, hc.code, HB.out.trans hc.keep.below⟩
set_option maxHeartbeats 4000000 in
theorem len_nil (w : World) : Calls Tryz.prog 24 #[.pointer none] w fun e w' => e = .returned (.int .i64 0) ∧ w = w' := by
  go_enter Tryz.func24, Tryz.ntmps24
  go_wp2_with fail
  go_ret
  exact ⟨rfl, rfl⟩
set_option maxHeartbeats 4000000 in
theorem len_calls (base g : Nat) (l : List I) (w : World) (h : CodeAt w base g l) : Calls Tryz.prog 24 #[.pointer (some ⟨g, 0, none⟩)] w fun e w' => e = .returned (.int .i64 (l.length : Int)) ∧ w = w' := by
  obtain ⟨⟨v, hg, how, hv0⟩, hge⟩ := h
  have hv : ∃ A c, v = .slice A l.length c := by
    rcases how.2 with ⟨h, h0⟩ | ⟨gr, cap, cur, h, _⟩
    · exact ⟨none, 0, by rw [h, h0]⟩
    · exact ⟨_, _, h⟩
  obtain ⟨A, c, rfl⟩ := hv
  have hc : w.cell? ⟨g, 0, none⟩ = some (.slice A l.length c) := (blk_cell hg 0).trans rfl
  clear how hv0 hg
  go_enter Tryz.func24, Tryz.ntmps24
  go_wp2_with fail
  go_ret
  exact ⟨rfl, rfl⟩
end Go.Proofs.YtjllmamblkejjaaGreatDoor
end

/- acode.Vars in memory: Set, Unset, Copy. No conditions. -/
section
set_option linter.unusedVariables false
set_option linter.unusedSimpArgs false
namespace Go.Proofs.YtjllmamblkejjaaGreatDoor
open Go.RowKit Go.Proofs.YtjllmamblkejjaaGreatDoorW.PrintWords Go.Proofs.YtjllmamblkejjaaGreatDoorW.PrintLast Go.Proofs.YtjllmamblkejjaaGreatDoorW.PrintMore
open PQA Sp

/-- What a call on the variables at g may turn: the map's block alone. -/
structure VKeep (bv : Nat) (w w' : World) : Prop where
  grown : w.grownBy w' (some bv)
theorem VKeep.below {bv B : Nat} {w0 w w' : World} (h : VKeep bv w w') (hb : Below B w0 w) (hB : B ≤ w.heap.size) (hbv : B ≤ bv) : Below B w0 w' := hb.grown h.grown hB (fun k hk => by cases hk; exact hbv)
theorem name_str (U : Bs) (W : World) (hl : U.length ≤ 140737488355328) (sz : Nat) (hs : sz = U.length) (q : Nat) (hq : q = W.heap.size) :
    Calls Tryz.prog 51 #[.slice (some ⟨q, 0, none⟩) sz (grownCap W sz 0 5)] (Lib.bytesWorld W 5 (mk U)) fun e w' =>
      e = .returned (.int .i64 (name U : Int)) ∧ Drawn0 (Lib.bytesWorld W 5 (mk U)) w' := by
  subst hs hq
  have hr := bytes_reads W 5 (mk U) (by rw [mk_size]; omega)
  have hb : bytesOf (mk U) = ints U := by simp [bytesOf, ints, mk]
  rw [hb] at hr
  rw [mk_size] at hr
  exact name_calls U _ _ _ (Kd.C_of_reads (d := 0) (h1 := fun _ => rfl) hr) (grownCap_ge _ _ _ _) (by omega)
theorem set_nil (x v : Bs) (w : World) : Calls Tryz.prog 27 #[.pointer none, .string (mk x), .string (mk v)] w fun e w' => e = .returned (.bool false) ∧ w = w' := by
  go_enter Tryz.func27, Tryz.ntmps27
  go_wp2_with fail
  go_ret
  exact ⟨rfl, rfl⟩
set_option maxHeartbeats 4000000 in
theorem set_not (g bv : Nat) (m : Vs) (x v : Bs) (w : World) (h : VarsIn w g bv m) (hx : small x) (hn : ¬ isName x) :
    Calls Tryz.prog 27 #[.pointer (some ⟨g, 0, none⟩), .string (mk x), .string (mk v)] w fun e w' => e = .returned (.bool false) ∧ Below w.heap.size w w' := by
  have hc : w.cell? ⟨g, 0, none⟩ = some (.map (some bv)) := (blk_cell h.blk 0).trans rfl
  have hmn := fun W => run_eql_map_nil (P := Tryz.prog) W 81 9 9 (some bv) Tryz.underlying81
  by_cases h0 : x = []
  · subst h0
    have he : (mk []).toList.isEmpty = true := mk_emp []
    go_enter Tryz.func27, Tryz.ntmps27
    go_wp2_with fail
    go_ret
    exact ⟨rfl, Below.refl _ _⟩
  · have he : (mk x).toList.isEmpty = false := by rw [mk_emp]; simpa using h0
    have hlt : name x < x.length := by
      have := name_bd x
      have hne : name x ≠ x.length := fun e => hn ⟨h0, e⟩
      omega
    have hsz : (mk x).size = x.length := mk_size x
    have hcv := fun W => Lib.run_convert_string_bytes (P := Tryz.prog) W 9 22 5 (mk x) Tryz.underlying9 Tryz.underlying22 Tryz.underlying5
    have hd : decide (name x < x.length) = true := by simpa using hlt
    have HX : Aside0 (x.length ≤ 140737488355328) := ⟨hx⟩
    clear h0 hn hx
    go_enter Tryz.func27, Tryz.ntmps27
    go_wp2_with fail
    with_reducible refine (name_str x _ HX.out _ (by first | rfl | simp) _ (by with_unfolding_all rfl)).mono ?_
    rintro e w1 ⟨rfl, hD⟩
    have HB := Aside0.mk (const_below (w := w) x (Below.refl _ _) hD)
    clear hD hcv
    go_wp2_with fail
    go_ret
    exact ⟨rfl, HB.out⟩
set_option maxHeartbeats 4000000 in
theorem set_ok (g bv : Nat) (m : Vs) (x v : Bs) (w : World) (h : VarsIn w g bv m) (hx : small x) (hv : small v) (hn : isName x) (hl : m.length ≤ 999999) :
    Calls Tryz.prog 27 #[.pointer (some ⟨g, 0, none⟩), .string (mk x), .string (mk v)] w fun e w' => e = .returned (.bool true) ∧ VarsIn w' g bv (mset x v m) ∧ w.grownBy w' (some bv) := by
  have hc : w.cell? ⟨g, 0, none⟩ = some (.map (some bv)) := (blk_cell h.blk 0).trans rfl
  have hmn := fun W => run_eql_map_nil (P := Tryz.prog) W 81 9 9 (some bv) Tryz.underlying81
  have he : (mk x).toList.isEmpty = false := by rw [mk_emp]; simpa using hn.1
  have hsz : (mk x).size = x.length := mk_size x
  have hcv := fun W => Lib.run_convert_string_bytes (P := Tryz.prog) W 9 22 5 (mk x) Tryz.underlying9 Tryz.underlying22 Tryz.underlying5
  have hd : decide (name x < x.length) = false := by simp [hn.2]
  have HXL : Aside0 (x.length ≤ 140737488355328) := ⟨hx⟩
  have HX := Aside0.mk hx
  have HVL := Aside0.mk hv
  have HV := Aside0.mk h
  clear hn hx hv h
  go_enter Tryz.func27, Tryz.ntmps27
  go_wp2_with fail
  with_reducible refine (name_str x _ HXL.out _ (by first | rfl | simp) _ (by with_unfolding_all rfl)).mono ?_
  rintro e w1 ⟨rfl, hD⟩
  have hb := const_below (w := w) x (Below.refl _ _) hD
  have HB := Aside0.mk hb
  have HV1 := Aside0.mk (HV.out.below hb)
  have hc1 : w1.cell? ⟨g, 0, none⟩ = some (.map (some bv)) := (blk_cell HV1.out.blk 0).trans rfl
  clear hD hcv hb
  go_wp2_with (at_mapUpdate; refine wpList_mapUpdate_in _ rfl _ _ _ 81 rfl 9 9 keyS Tryz.underlying81 _ bv m.length (dat m) rfl HV1.out.map (by unfold maxLen; omega) _ _ (.string x) rfl rfl (keyOfS HX.out) _ [] (valS HVL.out) ?_; intro w2 hown2 hturn2; have HO2 := Aside0.mk hown2; have HT2 := Aside0.mk hturn2; clear hown2 hturn2)
  go_ret
  have hown := HO2.out
  rw [dat_put] at hown
  have hg2 := HT2.out.grown
  refine ⟨rfl, ⟨(hg2.block g (blk_lt HV1.out.blk) (by simpa using HV1.out.ne)).trans HV1.out.blk, VMap.ofn hown, rising_set HV.out.rising, by have := len_mset x v m; omega, ?_, ?_⟩, ?_⟩
  · intro p hp
    rcases (mem_mset _ _ p _).1 hp with rfl | hp
    · exact HX.out
    · exact HV.out.names p hp.1
  · intro p hp
    rcases (mem_mset _ _ p _).1 hp with rfl | hp
    · exact HVL.out
    · exact HV.out.vals p hp.1
  · exact (grown_of_below HB.out (some bv)).andThen hg2 (fun j hj => .inr hj)
set_option maxHeartbeats 4000000 in
theorem unset_nil (x : Bs) (w : World) : Calls Tryz.prog 28 #[.pointer none, .string (mk x)] w fun e w' => e = .returned (.tuple #[]) ∧ w = w' := by
  go_enter Tryz.func28, Tryz.ntmps28
  go_wp2_with fail
  go_end0
  exact ⟨rfl, rfl⟩
set_option maxHeartbeats 4000000 in
theorem unset_calls (g bv : Nat) (m : Vs) (x : Bs) (w : World) (h : VarsIn w g bv m) (hx : small x) :
    Calls Tryz.prog 28 #[.pointer (some ⟨g, 0, none⟩), .string (mk x)] w fun e w' => e = .returned (.tuple #[]) ∧ VarsIn w' g bv (mdel x m) ∧ w.grownBy w' (some bv) := by
  have hc : w.cell? ⟨g, 0, none⟩ = some (.map (some bv)) := (blk_cell h.blk 0).trans rfl
  have HX := Aside0.mk hx
  have HV := Aside0.mk h
  clear hx h
  go_enter Tryz.func28, Tryz.ntmps28
  go_wp2_with (at_delete; refine wpList_delete_own _ rfl _ _ 81 9 rfl 9 keyS Tryz.underlying81 _ bv m.length (dat m) rfl HV.out.map _ (.string x) rfl (keyOfS HX.out) ?_; intro w2 hown2 hturn2; have HO2 := Aside0.mk hown2; have HT2 := Aside0.mk hturn2; clear hown2 hturn2)
  go_end0
  have hown := HO2.out
  rw [dat_del] at hown
  have hg2 := HT2.out.grown
  exact ⟨rfl, ⟨(hg2.block g (blk_lt HV.out.blk) (by simpa using HV.out.ne)).trans HV.out.blk, VMap.ofn hown, rising_del HV.out.rising, by have := len_mdel x m; have := HV.out.len; omega, fun p hp => HV.out.names p ((mem_mdel _ p _).1 hp).1, fun p hp => HV.out.vals p ((mem_mdel _ p _).1 hp).1⟩, hg2⟩
end Go.Proofs.YtjllmamblkejjaaGreatDoor
end

/- Plain law: an expression's code comes to what the expression is. No program in sight. No conditions. -/
section
set_option linter.unusedVariables false
set_option linter.unusedSimpArgs false
namespace Go.Proofs.YtjllmamblkejjaaGreatDoor
open Sp

theorem run1 {M : Mach} {L : List I} {s : St} {st : List Int} {e : Nat} {i : I} {x : Int} {set : Vs} (h : L[s.at_]? = some i) (hs : step1 M i { s with at_ := s.at_ + 1, steps := s.steps + 1 } = .on ⟨e, x :: st, set, s.steps + 1⟩) (he : e = s.at_ + 1) : Runs M L s st e (.ok x set) :=
  Runs.ahead h hs rfl (by simp [he]) (Runs.here x st set _ e)
theorem runs_num1 {M : Mach} {L : List I} {a steps e : Nat} {st : List Int} {set : Vs} {x : Bs} {pos : Nat} (h : L[a]? = some ⟨1, 0, x, [], pos, 0⟩) (he : e = a + 1) : Runs M L ⟨a, st, set, steps⟩ st e (num1 M set x pos) := by
  unfold num1
  split
  · rename_i hc
    exact run1 h (by simp [step1, hc, he]) he
  · rename_i hc
    exact Runs.fails h (by simp [step1, hc]) (by simp [he])
theorem runs_two1 {M : Mach} {L : List I} {a steps e : Nat} {st : List Int} {set : Vs} {op : Bs} {pos : Nat} {x y : Int} (h : L[a]? = some ⟨4, 0, [], op, pos, 0⟩) (he : e = a + 1) : Runs M L ⟨a, y :: x :: st, set, steps⟩ st e (two1 M op pos x y set) := by
  unfold two1
  split
  · rename_i hc
    exact Runs.fails h (by simp [step1, hc]) (by simp [he])
  · rename_i hc
    exact run1 h (by simp only [step1]; rw [if_neg hc]; simp [he]) he
theorem runs_put (M : Mach) (ex : Ex) : ∀ (l L : List I), (∀ i, l.length ≤ i → i < (put l ex).length → L[i]? = (put l ex)[i]?) → ∀ (st : List Int) (set : Vs) (steps : Nat), Runs M L ⟨l.length, st, set, steps⟩ st (put l ex).length (ev M ex set) := by
  induction ex with
  | num n pos =>
    intro l L hL st set steps
    have hi := (hL l.length (Nat.le_refl _) (by simp [put])).trans (get_new rfl)
    exact run1 hi (by simp [step1, put]) (by simp [put])
  | name x pos =>
    intro l L hL st set steps
    have hi := (hL l.length (Nat.le_refl _) (by simp [put])).trans (get_new rfl)
    exact runs_num1 hi (by simp [put])
  | un op pos e ih =>
    intro l L hL st set steps
    have h1 := put_len e l
    rw [put] at hL ⊢
    simp only [List.length_append, List.length_cons, List.length_nil] at hL ⊢
    rw [ev]
    refine (ih l L (fun i a b => (hL i a (by omega)).trans (get_lt b)) st set steps).seq (by omega) fun x s n => ?_
    exact run1 ((hL (put l e).length (by omega) (by omega)).trans (get_new rfl)) (by simp [step1]) rfl
  | bin op pos a b iha ihb =>
    intro l L hL st set steps
    have h1 := put_len a l
    rw [put] at hL ⊢
    rw [ev]
    by_cases e1 : op = [38, 38]
    · simp only [if_pos e1] at hL ⊢
      have h2 := put_len b (put l a ++ [J 8 0])
      simp only [patch_len, List.length_append, List.length_cons, List.length_nil] at hL h2 ⊢
      generalize hA : put l a = A at *
      generalize hB : put (A ++ [J 8 0]) b = B at *
      have hk : ∀ i, i < A.length + 1 → B[i]? = (A ++ [J 8 0])[i]? := fun i hi => by rw [← hB]; exact put_keep b _ i (by simpa using hi)
      have hG : ∀ i, i ≠ A.length → i < B.length → (patch (patch (B ++ [J 5 0] ++ [J 7 0]) A.length ++ [J 0 0]) (B.length + 1))[i]? = B[i]? := fun i hi hlt => by
        rw [get_patch_ne (by omega), get_lt (by simp only [patch_len, List.length_append, List.length_cons, List.length_nil]; omega), get_patch_ne hi, get_lt (by simp only [List.length_append, List.length_cons, List.length_nil]; omega), get_lt hlt]
      have iZ : L[A.length]? = some { J 8 0 with dest := B.length + 2 } := by
        rw [hL A.length (by omega) (by omega), get_patch_ne (by omega), get_lt (by simp only [patch_len, List.length_append, List.length_cons, List.length_nil]; omega),
          get_patch_eq (x := J 8 0) (by rw [get_lt (by simp only [List.length_append, List.length_cons, List.length_nil]; omega), get_lt (by omega), hk _ (by omega), get_new rfl])]
        simp
      have i5 : L[B.length]? = some (J 5 0) := by
        rw [hL B.length (by omega) (by omega), get_patch_ne (by omega), get_lt (by simp only [patch_len, List.length_append, List.length_cons, List.length_nil]; omega), get_patch_ne (by omega), get_lt (by simp only [List.length_append, List.length_cons, List.length_nil]; omega), get_new rfl]
      have i7 : L[B.length + 1]? = some { J 7 0 with dest := B.length + 3 } := by
        rw [hL (B.length + 1) (by omega) (by omega),
          get_patch_eq (x := J 7 0) (by rw [get_lt (by simp only [patch_len, List.length_append, List.length_cons, List.length_nil]; omega), get_patch_ne (by omega), get_new (by simp)])]
        simp [patch_len]
      have i0 : L[B.length + 2]? = some (J 0 0) := by
        rw [hL (B.length + 2) (by omega) (by omega), get_patch_ne (by omega), get_new (by simp [patch_len])]
      have ha := iha l L (fun i p q => by
        rw [hA] at q ⊢
        rw [hL i p (by omega), hG i (by omega) (by omega), hk i (by omega), get_lt q]) st set steps
      rw [hA] at ha
      refine ha.seq (by omega) fun x s n => ?_
      · by_cases hx : x = 0
        · rw [if_pos hx]
          refine Runs.ahead (s' := ⟨B.length + 2, st, s, n + 1⟩) iZ (by simp [step1, hx]) rfl (by simp; omega) ?_
          exact run1 i0 (by simp [step1]) (by simp)
        · rw [if_neg hx]
          refine Runs.ahead (s' := ⟨A.length + 1, st, s, n + 1⟩) iZ (by simp [step1, hx]) rfl (by simp) ?_
          have hb := ihb (A ++ [J 8 0]) L (fun i p q => by
            rw [hB] at q
            simp only [List.length_append, List.length_cons, List.length_nil] at p
            rw [hL i (by omega) (by omega), hG i (by omega) q, hB]) st s (n + 1)
          rw [hB] at hb
          simp only [List.length_append, List.length_cons, List.length_nil] at hb
          refine hb.seq (by omega) fun y s2 n2 => ?_
          refine Runs.ahead (s' := ⟨B.length + 1, tr (y != 0) :: st, s2, n2 + 1⟩) i5 (by simp [step1]) rfl (by simp) ?_
          refine Runs.ahead (s' := ⟨B.length + 3, tr (y != 0) :: st, s2, n2 + 2⟩) i7 (by simp [step1]) rfl (by simp) ?_
          exact Runs.here _ _ _ _ _
    · by_cases e2 : op = [124, 124]
      · simp only [if_neg e1, if_pos e2] at hL ⊢
        have h2 := put_len b (patch (put l a ++ [J 8 0] ++ [J 0 1] ++ [J 7 0]) (put l a).length)
        simp only [patch_len, List.length_append, List.length_cons, List.length_nil] at hL h2 ⊢
        generalize hA : put l a = A at *
        have hk := fun i => put_keep b (patch (A ++ [J 8 0] ++ [J 0 1] ++ [J 7 0]) A.length) i
        simp only [patch_len, List.length_append, List.length_cons, List.length_nil] at hk
        have ihb := ihb (patch (A ++ [J 8 0] ++ [J 0 1] ++ [J 7 0]) A.length)
        simp only [patch_len, List.length_append, List.length_cons, List.length_nil] at ihb
        generalize hB : put (patch (A ++ [J 8 0] ++ [J 0 1] ++ [J 7 0]) A.length) b = B at *
        have hG : ∀ i, i ≠ A.length + 2 → i < B.length → (patch (B ++ [J 5 0]) (A.length + 2))[i]? = B[i]? := fun i hi hlt => by
          rw [get_patch_ne (by omega), get_lt hlt]
        have iZ : L[A.length]? = some { J 8 0 with dest := A.length + 3 } := by
          rw [hL A.length (by omega) (by omega), hG _ (by omega) (by omega), hk _ (by omega),
            get_patch_eq (x := J 8 0) (by rw [get_lt (by simp only [List.length_append, List.length_cons, List.length_nil]; omega), get_lt (by simp only [List.length_append, List.length_cons, List.length_nil]; omega), get_new rfl])]
          simp
        have i0 : L[A.length + 1]? = some (J 0 1) := by
          rw [hL (A.length + 1) (by omega) (by omega), hG _ (by omega) (by omega), hk _ (by omega), get_patch_ne (by omega), get_lt (by simp only [List.length_append, List.length_cons, List.length_nil]; omega), get_new (by simp)]
        have i7 : L[A.length + 2]? = some { J 7 0 with dest := B.length + 1 } := by
          rw [hL (A.length + 2) (by omega) (by omega),
            get_patch_eq (x := J 7 0) (by rw [get_lt (by omega), hk _ (by omega), get_patch_ne (by omega), get_new (by simp)])]
          simp
        have i5 : L[B.length]? = some (J 5 0) := by
          rw [hL B.length (by omega) (by omega), get_patch_ne (by omega), get_new rfl]
        have ha := iha l L (fun i p q => by
          rw [hA] at q ⊢
          rw [hL i p (by omega), hG i (by omega) (by omega), hk i (by omega), get_patch_ne (by omega), get_lt (by simp only [List.length_append, List.length_cons, List.length_nil]; omega), get_lt (by simp only [List.length_append, List.length_cons, List.length_nil]; omega), get_lt q]) st set steps
        rw [hA] at ha
        refine ha.seq (by omega) fun x s n => ?_
        · by_cases hx : x = 0
          · rw [if_pos hx]
            refine Runs.ahead (s' := ⟨A.length + 3, st, s, n + 1⟩) iZ (by simp [step1, hx]) rfl (by simp) ?_
            have hb := ihb L (fun i p q => by rw [hL i (by omega) (by omega), hG i (by omega) q]) st s (n + 1)
            refine hb.seq (by omega) fun y s2 n2 => ?_
            refine Runs.ahead (s' := ⟨B.length + 1, tr (y != 0) :: st, s2, n2 + 1⟩) i5 (by simp [step1]) rfl (by simp) ?_
            exact Runs.here _ _ _ _ _
          · rw [if_neg hx]
            refine Runs.ahead (s' := ⟨A.length + 1, st, s, n + 1⟩) iZ (by simp [step1, hx]) rfl (by simp) ?_
            refine Runs.ahead (s' := ⟨A.length + 2, 1 :: st, s, n + 2⟩) i0 (by simp [step1]) rfl (by simp) ?_
            refine Runs.ahead (s' := ⟨B.length + 1, 1 :: st, s, n + 3⟩) i7 (by simp [step1]) rfl (by simp; omega) ?_
            exact Runs.here _ _ _ _ _
      · simp only [if_neg e1, if_neg e2] at hL ⊢
        have h2 := put_len b (put l a)
        simp only [List.length_append, List.length_cons, List.length_nil] at hL ⊢
        have hk := put_keep b (put l a)
        have ha := iha l L (fun i p q => by rw [hL i p (by omega), get_lt (by omega), hk i q]) st set steps
        refine ha.seq (by omega) fun x s n => ?_
        have hb := ihb (put l a) L (fun i p q => by rw [hL i (by omega) (by omega), get_lt q]) (x :: st) s n
        refine hb.seq (by omega) fun y s2 n2 => ?_
        exact runs_two1 ((hL (put (put l a) b).length (by omega) (by omega)).trans (get_new rfl)) rfl
  | tern pos c a b ihc iha ihb =>
    intro l L hL st set steps
    have h1 := put_len c l
    rw [put] at hL ⊢
    rw [ev]
    have h2 := put_len a (put l c ++ [J 8 0])
    have h3 := put_len b (patch (put (put l c ++ [J 8 0]) a ++ [J 7 0]) (put l c).length)
    have hk3 := put_keep b (patch (put (put l c ++ [J 8 0]) a ++ [J 7 0]) (put l c).length)
    have hk2 := put_keep a (put l c ++ [J 8 0])
    have iha := iha (put l c ++ [J 8 0])
    have ihb := ihb (patch (put (put l c ++ [J 8 0]) a ++ [J 7 0]) (put l c).length)
    simp only [patch_len, List.length_append, List.length_cons, List.length_nil] at hL h2 h3 hk3 hk2 iha ihb ⊢
    generalize hC : put l c = C at *
    generalize hA : put (C ++ [J 8 0]) a = A at *
    generalize hB : put (patch (A ++ [J 7 0]) C.length) b = B at *
    have iZ : L[C.length]? = some { J 8 0 with dest := A.length + 1 } := by
      rw [hL _ (by omega) (by omega), get_patch_ne (by omega), hk3 _ (by omega), get_patch_eq (x := J 8 0) (by rw [get_lt (by omega), hk2 _ (by omega), get_new rfl])]
      simp
    have i7 : L[A.length]? = some { J 7 0 with dest := B.length } := by
      rw [hL _ (by omega) (by omega), get_patch_eq (x := J 7 0) (by rw [hk3 _ (by omega), get_patch_ne (by omega), get_new rfl])]
    have hCr := ihc l L (fun i p q => by
      rw [hC] at q ⊢
      rw [hL i p (by omega), get_patch_ne (by omega), hk3 i (by omega), get_patch_ne (by omega), get_lt (by omega), hk2 i (by omega), get_lt q]) st set steps
    rw [hC] at hCr
    refine hCr.seq (by omega) fun x s n => ?_
    by_cases hx : x = 0
    · rw [if_pos hx]
      refine Runs.ahead (s' := ⟨A.length + 1, st, s, n + 1⟩) iZ (by simp [step1, hx]) rfl (by simp; omega) ?_
      exact ihb L (fun i p q => by rw [hL i (by omega) q, get_patch_ne (by omega)]) st s (n + 1)
    · rw [if_neg hx]
      refine Runs.ahead (s' := ⟨C.length + 1, st, s, n + 1⟩) iZ (by simp [step1, hx]) rfl (by simp) ?_
      have ha := iha L (fun i p q => by rw [hL i (by omega) (by omega), get_patch_ne (by omega), hk3 i (by omega), get_patch_ne (by omega), get_lt q]) st s (n + 1)
      have hb : ∀ v, ev M a s = v → Runs M L ⟨C.length + 1, st, s, n + 1⟩ st B.length v := by
        intro v hv
        rw [hv] at ha
        have hv2 : v.bind (fun x s => .ok x s) = v := by cases v <;> rfl
        rw [← hv2]
        refine ha.seq (by omega) fun y s2 n2 => ?_
        refine Runs.ahead (s' := ⟨B.length, y :: st, s2, n2 + 1⟩) i7 (by simp [step1]) rfl (by simp; omega) ?_
        exact Runs.here _ _ _ _ _
      exact hb _ rfl
  | asg op x pos apos e ih =>
    intro l L hL st set steps
    rw [put] at hL ⊢
    rw [ev]
    by_cases e1 : op = [61]
    · simp only [if_pos e1] at hL ⊢
      have h1 := put_len e l
      simp only [List.length_append, List.length_cons, List.length_nil] at hL ⊢
      refine (ih l L (fun i p q => (hL i p (by omega)).trans (get_lt q)) st set steps).seq (by omega) fun y s n => ?_
      exact run1 ((hL (put l e).length (by omega) (by omega)).trans (get_new rfl)) (by simp [step1]) rfl
    · simp only [if_neg e1] at hL ⊢
      have h1 := put_len e (l ++ [⟨1, 0, x, [], pos, 0⟩])
      have hk := put_keep e (l ++ [⟨1, 0, x, [], pos, 0⟩])
      have ih := ih (l ++ [⟨1, 0, x, [], pos, 0⟩])
      simp only [List.length_append, List.length_cons, List.length_nil] at hL h1 hk ih ⊢
      generalize hE : put (l ++ [⟨1, 0, x, [], pos, 0⟩]) e = E at *
      have i1 : L[l.length]? = some ⟨1, 0, x, [], pos, 0⟩ := by
        rw [hL l.length (by omega) (by omega), get_lt (by simp only [List.length_append, List.length_cons, List.length_nil]; omega), get_lt (by omega), hk _ (by omega), get_new rfl]
      have i4 : L[E.length]? = some ⟨4, 0, [], op.dropLast, apos, 0⟩ := by
        rw [hL E.length (by omega) (by omega), get_lt (by simp), get_new rfl]
      have i2 : L[E.length + 1]? = some ⟨2, 0, x, [], 0, 0⟩ := by
        rw [hL (E.length + 1) (by omega) (by omega), get_new (by simp)]
      refine (runs_num1 (steps := steps) (st := st) (set := set) i1 rfl).seq (by omega) fun v s n => ?_
      refine (ih L (fun i p q => by rw [hL i (by omega) (by omega), get_lt (by simp only [List.length_append, List.length_cons, List.length_nil]; omega), get_lt q]) (v :: st) s n).seq (by omega) fun y s2 n2 => ?_
      refine (runs_two1 (steps := n2) i4 rfl).seq (by omega) fun z s3 n3 => ?_
      exact run1 i2 (by simp [step1]) rfl
/-- A whole expression's code, run. -/
theorem exec_put (M : Mach) (ex : Ex) (set : Vs) (f : Nat) (hf : (put [] ex).length < f) : ∃ k, k ≤ (put [] ex).length ∧ exec M (put [] ex) f ⟨0, [], set, 0⟩ = some (match ev M ex set with | .ok x s => .val x s k | .err c p => .err c p k) := by
  have h := runs_put M ex [] (put [] ex) (fun _ _ _ => rfl) [] set 0
  cases hv : ev M ex set with
  | ok x s =>
    rw [hv] at h
    obtain ⟨n, hn, hr⟩ := h
    simp only [List.length_nil] at hn
    refine ⟨n, by omega, ?_⟩
    obtain ⟨f', rfl⟩ : ∃ f', f = f' + 1 + n := ⟨f - 1 - n, by omega⟩
    have := hr (f' + 1)
    simp only [List.length_nil] at this
    rw [this, exec]
    simp
  | err c p =>
    rw [hv] at h
    obtain ⟨n, hn, hr⟩ := h
    simp only [List.length_nil] at hn
    refine ⟨n + 1, by omega, ?_⟩
    obtain ⟨f', rfl⟩ : ∃ f', f = f' + (n + 1) := ⟨f - 1 - n, by omega⟩
    have := hr f'
    simpa using this
end Go.Proofs.YtjllmamblkejjaaGreatDoor
end

/- (*acode.Code).Run. No conditions. -/
section
set_option linter.unusedVariables false
set_option linter.unusedSimpArgs false
namespace Go.Proofs.YtjllmamblkejjaaGreatDoor
open Go.RowKit Go.Proofs.YtjllmamblkejjaaGreatDoorW.PrintWords Go.Proofs.YtjllmamblkejjaaGreatDoorW.PrintLast Go.Proofs.YtjllmamblkejjaaGreatDoorW.PrintMore
open PQA Sp

/-- m with what set has. -/
def over (set m : Vs) : Vs := set.foldl (fun m p => mset p.1 p.2 m) m
theorem rising_over : ∀ (set m : Vs), Rising m → Rising (over set m)
  | [], m, h => h
  | p :: set, m, h => rising_over set (mset p.1 p.2 m) (rising_set h)
theorem get_over : ∀ (set m : Vs), Rising set → Rising m → ∀ k, mget k (over set m) = (mget k set).or (mget k m)
  | [], m, _, _, k => rfl
  | p :: set, m, hs, hm, k => by
    obtain ⟨h1, h2⟩ := List.pairwise_cons.1 hs
    show mget k (over set (mset p.1 p.2 m)) = _
    rw [get_over set _ h2 (rising_set hm) k]
    by_cases e : k = p.1
    · subst e
      rw [mget_set_same hm]
      have h3 : mget p.1 set = none := by
        cases hg : mget p.1 set with
        | none => rfl
        | some v => exact absurd rfl (bef_ne (h1 (p.1, v) ((mget_mem h2).1 hg)))
      have h4 : mget p.1 (p :: set) = some p.2 := (mget_mem hs).2 (by simp)
      rw [h3, h4]; rfl
    · rw [mget_set_other hm e]
      have h4 : mget k (p :: set) = mget k set := by
        refine opt_ext fun v => ?_
        rw [mget_mem hs, mget_mem h2, List.mem_cons]
        exact ⟨fun h => h.resolve_left (fun h => e (congrArg Prod.fst h)), .inr⟩
      rw [h4]
theorem len_over : ∀ (set m : Vs), (over set m).length ≤ m.length + set.length
  | [], m => by simp [over]
  | p :: set, m => by
    have h1 := len_over set (mset p.1 p.2 m)
    have h2 := len_mset p.1 p.2 m
    show (over set (mset p.1 p.2 m)).length ≤ _
    simp only [List.length_cons]; omega
/-- Where the range over what was set stands: cur is m with what has come. -/
structure Came (set m cur : Vs) (left : Lit → Bool) : Prop where
  get : ∀ k, mget k cur = if left (.string k) = true then mget k m else (mget k set).or (mget k m)
theorem came_start (set m : Vs) : Came set m m (Maps.has (dat set)) := ⟨fun k => by
  rw [dat_has]
  cases h : mget k set with
  | none => simp
  | some v => simp⟩
theorem came_end {set m cur : Vs} {left : Lit → Bool} (h : Came set m cur left) (hl : ∀ kl, left kl = false) (hs : Rising set) (hm : Rising m) (hc : Rising cur) : cur = over set m :=
  vs_ext_get hc (rising_over set m hm) fun k => by rw [h.get k, if_neg (by rw [hl]; simp), get_over set m hs hm k]
theorem came_step {set m cur : Vs} {left : Lit → Bool} {x v : Bs} (h : Came set m cur left) (hc : Rising cur) (hx : mget x set = some v) : Came set m (mset x v cur) (fun z => left z && !z.sameKey (.string x)) := ⟨fun k => by
  by_cases e : k = x
  · subst e
    have : Lit.sameKey (.string k) (.string k) = true := by simp [Lit.sameKey]
    rw [mget_set_same hc, this, hx]
    simp
  · have : Lit.sameKey (.string k) (.string x) = false := by simp [Lit.sameKey, e]
    rw [mget_set_other hc e, h.get k, this]
    simp⟩
theorem dat_at_some {m : Vs} (h : Rising m) {k : Bs} {c : List UInt8} (hl : Maps.has (dat m) (.string k) = true) (hat : ∀ zd, (dat m).atKey (.string k) zd = .lit (.string c)) : mget k m = some c := by
  rw [dat_has] at hl
  obtain ⟨v, hv⟩ := Option.isSome_iff_exists.1 hl
  have h1 := hat (.lit (.string []))
  rw [dat_at, hv] at h1
  simp only [Option.getD_some, DataW.lit.injEq, Lit.string.injEq] at h1
  rw [hv, h1]
theorem wpList_next_vars {w : World} {ops : Array Oper} {rest : List Oper} {o : Oper} {a : Act} {Q : Exit → Act → World → Prop}
    (hg : o.guard = none) (it : Operand) (hop : o.op = Op.next it false) (b r n : Nat) (set : Vs) (hs : Rising set) (left : Lit → Bool) (cnt : Nat) (hit : a.eval it = .pointer (some ⟨r, 0, none⟩)) (h : w.ranges Tryz.prog 9 (plainElem Tryz.prog 9) b r n (dat set) left cnt)
    (hDone : cnt = 0 → (∀ kl, left kl = false) → wpList Tryz.prog ops Q rest (a.put o.dst (.tuple #[.bool false])) w)
    (hMore : ∀ (x c : Bs) (w' : World) (cnt' : Nat), mget x set = some c → w'.ranges Tryz.prog 9 (plainElem Tryz.prog 9) b r n (dat set) (fun z => left z && !z.sameKey (.string x)) cnt' → cnt' < cnt →
      w.grownBy w' (some r) → w'.heap.size = w.heap.size → (Instr.entry (.pointer (some ⟨r, 0, none⟩))).run Tryz.prog w' = .ok (.tuple #[.string (mk x), .string (mk c)]) w' → wpList Tryz.prog ops Q rest (a.put o.dst (.tuple #[.bool true, .string (mk x), .string (mk c)])) w') :
    wpList Tryz.prog ops Q (o :: rest) a w :=
  wpList_next_ranges w hg it hop 9 keyS (plainElem Tryz.prog 9) Value.string Value.string (fun key kl hkey => by obtain ⟨x, rfl, _⟩ := WideMaps.string_of_keyOf Tryz.underlying9 hkey; exact ⟨x, rfl⟩) (fun v y hv => by obtain ⟨c, rfl, _⟩ := plainElem_string_inv Tryz.underlying9 hv; exact ⟨c, rfl⟩)
    b r n (dat set) left cnt hit h hDone (fun x c kl y w' cnt' hkey hlk hv hat hrg hlt hgr hsz hen => by
      obtain ⟨x', ex, rfl, _⟩ := WideMaps.string_of_keyOf Tryz.underlying9 hkey
      injection ex with ex
      subst ex
      obtain ⟨c', ec, rfl, _⟩ := plainElem_string_inv Tryz.underlying9 hv
      injection ec with ec
      subst ec
      have hm := dat_at_some hs (Maps.has_true_of_atKey hat) hat
      have e1 := mk_of x
      have e2 := mk_of c
      rw [e1, e2] at hen ⊢
      exact hMore _ _ w' cnt' hm hrg hlt hgr hsz hen)
set_option maxHeartbeats 4000000 in
theorem run_nil (E : Nat → Addr) (pv : Value) (w : World) (hE : Env E w) :
    Calls Tryz.prog 22 #[.pointer none, pv] w fun e w' => ∃ v, e = .returned (.tuple #[.int .i64 0, v]) ∧ ErrV E w' v 1 0 1 ∧ Below w.heap.size w w' := by
  have HE := Aside0.mk hE
  clear hE
  go_enter Tryz.func22, Tryz.ntmps22
  go_wp2_with fail
  with_reducible refine (afail_calls E 1 0 _ _ (by omega) (by omega) _ HE.out (by omega) (by omega)).mono ?_
  rintro e w1 ⟨v, rfl, hev, hb⟩
  go_wp2_with fail
  go_ret2
  exact ⟨_, rfl, hev, hb⟩
/-- The code of a tree, as the machine takes it. -/
theorem code_ok {w : World} {base g : Nat} {ex : Ex} {n : Nat} (hC : CodeAt w base g (put [] ex)) (hnm : Nm n ex) (hnu : Nums ex) (hn : n ≤ 1000000) (hsz : sz ex ≤ 10000) :
    ∃ gr cap cur, w.heap[g]? = some (.cells #[.slice (some ⟨gr, 0, none⟩) (put [] ex).length cap] 105 (0, 0)) ∧ CodeOk w gr cap cur (put [] ex) := by
  obtain ⟨⟨v, hg, how, hv0⟩, hge⟩ := hC
  have hl := put_len ex []
  simp only [List.length_nil] at hl
  rcases how.2 with ⟨_, h0⟩ | ⟨gr, cap, cur, rfl, hb, hr, hnc, hcap, hcs, htk⟩
  · omega
  · refine ⟨gr, cap, cur, hg, ⟨hr, htk, hnc, by omega, fun i hi => ?_⟩⟩
    have hk := put_ok n 1000000 ex hnm hnu [] (by omega) (fun i hi => by simp at hi) i hi
    exact ⟨by have := hk.name; unfold small; omega, ⟨by have := hk.lo; omega, hk.hi⟩, hk.dest, hk.valid⟩
theorem runinv0 (m : Vs) (L : List I) (r : Out) (gm : Nat) (pv : Value) (w w1 : World) (k : Nat) (hr : exec (mach m) L k ⟨0, [], [], 0⟩ = some r) (hk : k ≤ 100000) (hB : Below w.heap.size w w1) (bs : Nat) (hbs : w.heap.size ≤ bs) (hgm : w.heap.size ≤ gm) (hm : w1.heap[bs]? = some (.map #[] 0)) (hg : w1.heap[gm]? = some (.cells #[pv, .map (some bs), .slice none 0 0, .int .i64 0] 110 (0, 0))) : RunInv m L r gm pv w w1 k ⟨0, [], [], 0⟩ := by
  refine ⟨hr, ⟨⟨_, bs, hg, ⟨rfl, .inl ⟨rfl, rfl⟩⟩, ?_, hbs⟩, hgm, List.Pairwise.nil, by simp⟩, hB, by simp; omega, by simp; omega, by simp, by simp, by simpa using hk, by simp⟩
  obtain ⟨es, clock, h1, h2⟩ := World.ownsMap_made (H := Unit) w1 Tryz.prog 9 (plainElem Tryz.prog 9)
  have h3 := (MapKept.heap_alloc w1 (.map #[] 0)).1
  rw [h3] at h1
  injection h1 with h1
  injection h1 with e1 e2
  subst e1 e2
  exact ⟨#[], 0, hm, h2⟩
/-- What a run of an expression's code comes to. -/
def CodePost (E : Nat → Addr) (pv : Value) (m : Vs) (w : World) (v : Val) (e : Ending) (w' : World) : Prop :=
  match v with
  | .err c p => ∃ v, e = .returned (.tuple #[.int .i64 0, v]) ∧ ErrV E w' v c p 1 ∧ Below w.heap.size w w'
  | .ok x set => e = .returned (.tuple #[.int .i64 x, .nilIface]) ∧ ((pv = .pointer none ∧ Below w.heap.size w w') ∨ ∃ g bv, pv = .pointer (some ⟨g, 0, none⟩) ∧ VarsIn w g bv m ∧ VarsIn w' g bv (over set m) ∧ w.grownBy w' (some bv))
structure RangeInv (set m : Vs) (g bv bs r n : Nat) (w wr : World) (left : Lit → Bool) (cnt : Nat) (cur : Vs) : Prop where
  rg : wr.ranges Tryz.prog 9 (plainElem Tryz.prog 9) bs r n (dat set) left cnt
  came : Came set m cur left
  vars : VarsIn wr g bv cur
  grown : w.grownBy wr (some bv)
  len : cur.length + cnt ≤ m.length + set.length
structure RangeNil (set : Vs) (bs r n : Nat) (w wr : World) (left : Lit → Bool) (cnt : Nat) : Prop where
  rg : wr.ranges Tryz.prog 9 (plainElem Tryz.prog 9) bs r n (dat set) left cnt
  below : Below w.heap.size w wr
set_option maxHeartbeats 4000000 in
set_option maxRecDepth 100000 in
theorem coderun_calls (E : Nat → Addr) (base gc : Nat) (ex : Ex) (n : Nat) (pv : Value) (m : Vs) (w : World) (hE : Env E w) (hC : CodeAt w base gc (put [] ex)) (hnm : Nm n ex) (hnu : Nums ex) (hn : n ≤ 1000000) (hsz : sz ex ≤ 10000) (hv : VarsAt w pv m) (hlen : m.length ≤ 500000) :
    Calls Tryz.prog 22 #[.pointer (some ⟨gc, 0, none⟩), pv] w (CodePost E pv m w (ev (mach m) ex [])) := by
  obtain ⟨gr, cap, cur, hg, hok⟩ := code_ok hC hnm hnu hn hsz
  have hl := put_len ex []
  simp only [List.length_nil] at hl
  obtain ⟨k, hk, hx⟩ := exec_put (mach m) ex [] 99999 (by omega)
  have hpv : ∃ a, pv = .pointer a := by rcases hv with ⟨h, _⟩ | ⟨_, _, h, _⟩ <;> exact ⟨_, h⟩
  have hc : w.cell? ⟨gc, 0, none⟩ = some (.slice (some ⟨gr, 0, none⟩) (put [] ex).length cap) := (blk_cell hg 0).trans rfl
  have hlt := blk_lt hg
  have hmm := @run_makeMap Tryz.prog
  have hB0 := below_alloc (below_alloc (Below.refl _ w) (.map #[] 0)) (.cells #[pv, .map (some w.heap.size), .slice none 0 0, .int .i64 0] 110)
  have HI := Aside0.mk (runinv0 m (put [] ex) _ (w.heap.size + 1) pv w _ 99999 hx (by omega) hB0 w.heap.size (Nat.le_refl _) (Nat.le_succ _) ((Below.heap_alloc _ _ _ (by simp)).trans (heap_new (w := w) (W := w) rfl _)) (heap_at (by simp) _))
  have HE := Aside0.mk hE
  have HV := Aside0.mk hv
  have HOK := Aside0.mk hok
  have HPV := Aside0.mk hpv
  have hnz : 0 < (put [] ex).length := hl.1
  have hnb : (((put [] ex).length : Int) == 0) = false := by rw [beq_eq_false_iff_ne]; omega
  obtain ⟨L, hL⟩ : ∃ L, L = put [] ex := ⟨_, rfl⟩
  rw [← hL] at hc HI HOK hnz hnb
  obtain ⟨r, hr⟩ : ∃ r, r = ev (mach m) ex [] := ⟨_, rfl⟩
  rw [← hr] at HI ⊢
  clear hE hv hok hpv hg hC hx hB0 hnm hnu hk hL hl hr
  obtain ⟨ap, rfl⟩ := HPV.out
  go_enter Tryz.func22, Tryz.ntmps22
  go_wp2_with fail
  with_reducible refine (run_calls E (w.heap.size + 1) (.pointer ap) m L 99999 _ w HE.out HV.out HPV.out gr cap cur HOK.out _ HI.out).mono ?_
  rintro e w1 hp
  cases r with
  | err c p =>
    obtain ⟨hb, v, rfl, hev, _⟩ := hp
    have HEV := Aside0.mk hev
    obtain ⟨se, pe, rfl, _⟩ := hev
    have HB := Aside0.mk hb
    clear hb
    go_wp2_with fail
    go_ret2
    exact ⟨_, rfl, HEV.out, HB.out⟩
  | ok x set =>
    obtain ⟨hb, rfl, hxi, st, rfl, _, hms, hvs, hns, hsl⟩ := hp
    obtain ⟨sv, bs, hgm, _, hmp, hbs⟩ := hms.made
    have hri := hms.rising
    have hc1 : w1.cell? ⟨w.heap.size + 1, 1, none⟩ = some (.map (some bs)) := (blk_cell hgm 1).trans rfl
    have hltm := blk_lt hgm
    have HB := Aside0.mk hb
    have HMP := Aside0.mk hmp
    have HRI := Aside0.mk hri
    have HVS := Aside0.mk hvs
    have HNS := Aside0.mk hns
    clear hb hmp hri hvs hns hgm hms
    go_wp2_with (at_range; refine wpList_range_own _ rfl _ 81 rfl 9 9 keyS Tryz.underlying81 _ bs st.set.length (dat st.set) rfl HMP.out ?_; intro w2 hrg2 hg2 hs2; have HRG := Aside0.mk hrg2; have HG2 := Aside0.mk hg2; have HS2 := Aside0.mk hs2; clear hrg2 hg2 hs2)
    go_frame
    rcases HV.out with ⟨hp, hm0⟩ | ⟨g, bv, hp, hvi⟩
    · injection hp with hp
      subst hp
      have hw1 := HB.out.size
      have hb2 : Below w.heap.size w w2 := HB.out.grown HG2.out hw1 (fun j hj => by cases hj)
      have HR0 := Aside0.mk (RangeNil.mk (set := st.set) (bs := bs) (r := w1.heap.size) (n := st.set.length) (w := w) (wr := w2) (left := Maps.has (dat st.set)) (cnt := Maps.size (dat st.set)) HRG.out hb2)
      clear hb2
      go_loopw [9] (fun v9 wr => ∃ (left : Lit → Bool) (cnt : Nat), Aside0 (RangeNil st.set bs w1.heap.size st.set.length w wr left cnt)) (fun v9 wr => wr.rangeLeft bs w1.heap.size)
      case atStart => exact ⟨_, _, HR0⟩
      case round =>
        obtain ⟨left, cnt, HR⟩ := hrel
        clear HR0
        go_wp2_with (at_next; refine wpList_next_vars rfl _ rfl bs w1.heap.size st.set.length st.set HRI.out left cnt rfl HR.out.rg ?_ ?_)
        · intro h0 hl0
          clear h0 hl0
          go_wp2_with fail
          go_ret2
          exact ⟨rfl, .inl ⟨rfl, HR.out.below⟩⟩
        · intro x1 c1 w3 cnt1 hmx hrg3 hlt3 hgr3 hsz3 hen
          have hgw := HR.out.below.size
          have HS := Aside0.mk (And.intro hrg3 (And.intro hlt3 hgr3))
          clear hmx hrg3 hlt3 hgr3 hsz3
          go_wp2_with fail
          with_reducible refine (set_nil x1 c1 _).mono ?_
          rintro e w4 ⟨rfl, rfl⟩
          go_wp2_with fail
          obtain ⟨hrg3, hlt3, hgr3⟩ := HS.out
          go_roundw
          case rel => exact ⟨_, cnt1, ⟨⟨hrg3, HR.out.below.grown hgr3 hgw (fun j hj => by cases hj; exact hw1)⟩⟩⟩
          case measure =>
            rw [hrg3.left_eq, HR.out.rg.left_eq]
            exact hlt3
    · injection hp with hp
      subst hp
      have hgl := blk_lt hvi.blk
      have hbl := hvi.map.lt
      have hgb := hvi.ne
      have hw1 := HB.out.size
      have hvi2 : VarsIn w2 g bv m := (hvi.below HB.out).keep (HG2.out.block g (by omega) (by simp)) (HG2.out.block bv (by omega) (by simp))
      have HR0 := Aside0.mk (RangeInv.mk (set := st.set) (m := m) (g := g) (bv := bv) (bs := bs) (r := w1.heap.size) (n := st.set.length) (w := w) (wr := w2) (left := Maps.has (dat st.set)) (cnt := Maps.size (dat st.set)) (cur := m) HRG.out (came_start _ _) hvi2 ((grown_of_below HB.out (some bv)).andThen HG2.out (fun j hj => by cases hj)) (by rw [dat_size]; omega))
      clear hvi2
      go_loopw [9] (fun v9 wr => ∃ (left : Lit → Bool) (cnt : Nat) (cur : Vs), Aside0 (RangeInv st.set m g bv bs w1.heap.size st.set.length w wr left cnt cur)) (fun v9 wr => wr.rangeLeft bs w1.heap.size)
      case atStart => exact ⟨_, _, _, HR0⟩
      case round =>
        obtain ⟨left, cnt, cu, HR⟩ := hrel
        clear HR0
        go_wp2_with (at_next; refine wpList_next_vars rfl _ rfl bs w1.heap.size st.set.length st.set HRI.out left cnt rfl HR.out.rg ?_ ?_)
        · intro h0 hl0
          have HL0 := Aside0.mk hl0
          clear hl0
          go_wp2_with fail
          go_ret2
          have he := came_end HR.out.came HL0.out HRI.out hvi.rising HR.out.vars.rising
          refine ⟨rfl, .inr ⟨g, bv, rfl, hvi, ?_, HR.out.grown⟩⟩
          rw [← he]
          exact HR.out.vars
        · intro x1 c1 w3 cnt1 hmx hrg3 hlt3 hgr3 hsz3 hen
          have hmem := (mget_mem HRI.out).1 hmx
          have hgw := HR.out.grown.size
          have hv3 : VarsIn w3 g bv cu := HR.out.vars.keep (hgr3.block g (by omega) (by simp; omega)) (hgr3.block bv (by omega) (by simp; omega))
          have hcl : cu.length ≤ 999999 := by have := HR.out.len; omega
          have HS := Aside0.mk (And.intro hmx (And.intro hrg3 (And.intro hlt3 (And.intro hgr3 (And.intro hsz3 hv3)))))
          have HN1 := Aside0.mk (HNS.out _ hmem)
          have HN2 := Aside0.mk (HVS.out _ hmem)
          clear hmx hrg3 hlt3 hgr3 hsz3 hv3 hmem
          go_wp2_with fail
          with_reducible refine (set_ok g bv cu x1 c1 _ HS.out.2.2.2.2.2 HN1.out.1 HN2.out HN1.out.2 hcl).mono ?_
          rintro e w4 ⟨rfl, hv4, hg4⟩
          have HV4 := Aside0.mk hv4
          have HG4 := Aside0.mk hg4
          clear hv4 hg4
          go_wp2_with fail
          obtain ⟨hmx, hrg3, hlt3, hgr3, hsz3, hv3⟩ := HS.out
          have hrg4 := hrg3.kept HG4.out (by simp; omega) (by simp; omega)
          go_roundw
          case rel =>
            refine ⟨_, cnt1, mset x1 c1 cu, ⟨⟨hrg4, came_step HR.out.came HR.out.vars.rising hmx, HV4.out, ?_, ?_⟩⟩⟩
            · refine (HR.out.grown.andThen hgr3 (fun j hj => ?_)).andThen HG4.out (fun j hj => .inr hj)
              injection hj with hj
              exact .inl (by omega)
            · have := len_mset x1 c1 cu
              have := HR.out.len
              omega
          case measure =>
            rw [hrg4.left_eq, HR.out.rg.left_eq]
            exact hlt3
end Go.Proofs.YtjllmamblkejjaaGreatDoor
end

/- acode.Eval. No conditions. -/
section
set_option linter.unusedVariables false
set_option linter.unusedSimpArgs false
namespace Go.Proofs.YtjllmamblkejjaaGreatDoor
open Go.RowKit Go.Proofs.YtjllmamblkejjaaGreatDoorW.PrintWords Go.Proofs.YtjllmamblkejjaaGreatDoorW.PrintLast Go.Proofs.YtjllmamblkejjaaGreatDoorW.PrintMore
open PQA Sp

theorem wf_nums : ∀ ex : Ex, Wf ex → Nums ex
  | .num n _, h => h
  | .name .., _ => trivial
  | .un _ _ e, h => wf_nums e h.2
  | .bin _ _ a b, h => ⟨wf_nums a h.2.1, wf_nums b h.2.2⟩
  | .tern _ c a b, h => ⟨wf_nums c h.1, wf_nums a h.2.1, wf_nums b h.2.2⟩
  | .asg _ _ _ _ e, h => wf_nums e h.2.2.2
theorem parsed_ok {b : Bs} {ex : Ex} {t : Tok} (h : parsed b = .ok ex t) : b.length ≤ 1024 ∧ parse b (fuel b) = .ok ex t := by
  unfold parsed at h
  split at h
  · rename_i hl; exact ⟨hl, h⟩
  · simp at h
theorem VarsIn.inj {w : World} {g bv bv' : Nat} {m m' : Vs} (h : VarsIn w g bv m) (h' : VarsIn w g bv' m') : bv = bv' := by
  have e := h.blk.symm.trans h'.blk
  simpa using e
theorem CodePost.after {E : Nat → Addr} {pv : Value} {m : Vs} {w w1 : World} {v : Val} {e : Ending} {w' : World} (h : CodePost E pv m w1 v e w') (hb : Below w.heap.size w w1) (hva : VarsAt w pv m) : CodePost E pv m w v e w' := by
  cases v with
  | err c p => obtain ⟨v, he, hv, h2⟩ := h; exact ⟨v, he, hv, below_then hb hb.size h2⟩
  | ok x set =>
    obtain ⟨he, h⟩ := h
    refine ⟨he, ?_⟩
    rcases h with ⟨hp, h2⟩ | ⟨g, bv, hp, hv⟩
    · exact .inl ⟨hp, below_then hb hb.size h2⟩
    · rcases hva with ⟨h0, _⟩ | ⟨g', bv', h0, hv0⟩
      · rw [hp] at h0; cases h0
      · rw [hp] at h0
        simp only [Value.pointer.injEq, Option.some.injEq, Addr.mk.injEq, and_true] at h0
        subst h0
        obtain rfl := (hv0.below hb).inj hv.1
        exact .inr ⟨g, bv', hp, hv0, hv.2.1, (grown_of_below hb (some bv')).andThen hv.2.2 (fun j hj => .inr hj)⟩
def EvalPost (E : Nat → Addr) (pv : Value) (m : Vs) (w : World) (r : Res Ex) (e : Ending) (w' : World) : Prop :=
  match r with
  | .err c p => ∃ v, e = .returned (.tuple #[.int .i64 0, v]) ∧ ErrV E w' v c p 1 ∧ Below w.heap.size w w'
  | .ok ex _ => CodePost E pv m w (ev (mach m) ex []) e w'
  | .out => False
set_option maxHeartbeats 4000000 in
set_option maxRecDepth 100000 in
theorem eval_calls (E : Nat → Addr) (b : Bs) (A : Option Addr) (c : Nat) (pv : Value) (m : Vs) (w : World) (hE : Env E w) (hr : Rb w A b) (hc : b.length ≤ c) (hv : VarsAt w pv m) (hlen : m.length ≤ 500000) :
    Calls Tryz.prog 13 #[.slice A b.length c, pv] w (EvalPost E pv m w (parsed b)) := by
  have hpv : ∃ a, pv = .pointer a := by rcases hv with ⟨h, _⟩ | ⟨_, _, h, _⟩ <;> exact ⟨_, h⟩
  have HP := Aside0.mk (parse_all E b A c w hE hr hc)
  have HE := Aside0.mk hE
  have HV := Aside0.mk hv
  have HPO := Aside0.mk (fun ex t (h : parsed b = .ok ex t) => parsed_ok h)
  obtain ⟨r, hr'⟩ : ∃ r, r = parsed b := ⟨_, rfl⟩
  rw [← hr'] at HP HPO ⊢
  clear hE hv hr hc hr'
  obtain ⟨ap, rfl⟩ := hpv
  go_enter Tryz.func13, Tryz.ntmps13
  go_wp2_with fail
  with_reducible refine HP.out.mono ?_
  rintro e w1 hp
  cases r with
  | out => exact hp.elim
  | err cd p =>
    obtain ⟨v, rfl, hev, hb⟩ := hp
    have HEV := Aside0.mk hev
    obtain ⟨se, pe, rfl, _⟩ := hev
    have HB := Aside0.mk hb
    clear hb
    go_wp2_with fail
    go_ret2
    exact ⟨_, rfl, HEV.out, HB.out⟩
  | ok ex t =>
    obtain ⟨q, s0, n1, s2, n3, n4, AA, ln, cc, rfl, hq, hh, hT, hb⟩ := hp
    obtain ⟨hl, hpo⟩ := HPO.out ex t rfl
    have hwf := parse_wf b _ ex t hpo
    obtain ⟨hnm, hsz⟩ := parse_sz hpo
    have HWF := Aside0.mk hwf
    have HNU := Aside0.mk (wf_nums ex hwf)
    have HNM := Aside0.mk hnm
    have HH := Aside0.mk hh
    have HT := Aside0.mk hT
    have HB := Aside0.mk hb
    clear hq hh hT hb hwf hnm hpo HP HPO
    go_wp2_with fail
    with_reducible refine (compile_calls q _ ex HWF.out (by omega) s0 n1 s2 n3 n4 AA ln cc _ HH.out HT.out).mono ?_
    rintro e w2 ⟨rfl, hC, hb2⟩
    have HC := Aside0.mk hC
    have HB2 := Aside0.mk (below_then HB.out HB.out.size hb2)
    clear hC hb2
    go_wp2_with fail
    with_reducible refine (coderun_calls E _ _ ex b.length (.pointer ap) m _ (HE.out.below HB2.out) HC.out HNM.out HNU.out (by omega) (by omega) (HV.out.below HB2.out) hlen).mono ?_
    rintro e w3 hp3
    have hp4 := hp3.after HB2.out HV.out
    clear hp3
    cases hvv : ev (mach m) ex [] with
    | err cd p =>
      rw [hvv] at hp4
      obtain ⟨v, rfl, hev, hb⟩ := hp4
      have HV3 := Aside0.mk hvv
      have HX3 := Aside0.mk (And.intro hev hb)
      clear hev hb hvv
      go_wp2_with fail
      go_ret2
      show CodePost _ _ _ _ _ _ _
      rw [HV3.out]
      exact ⟨_, rfl, HX3.out.1, HX3.out.2⟩
    | ok x set =>
      rw [hvv] at hp4
      obtain ⟨rfl, hx⟩ := hp4
      have HV3 := Aside0.mk hvv
      have HX3 := Aside0.mk hx
      clear hx hvv
      go_wp2_with fail
      go_ret2
      show CodePost _ _ _ _ _ _ _
      rw [HV3.out]
      exact ⟨rfl, HX3.out⟩
theorem eval_at (E : Nat → Addr) (b : Bs) (A : Option Addr) (c n : Nat) (hn : n = b.length) (pv : Value) (m : Vs) (w : World) (hE : Env E w) (hr : Rb w A b) (hc : b.length ≤ c) (hv : VarsAt w pv m) (hlen : m.length ≤ 500000) :
    Calls Tryz.prog 13 #[.slice A n c, pv] w (EvalPost E pv m w (parsed b)) := by
  subst hn
  exact eval_calls E b A c pv m w hE hr hc hv hlen
/-- An evaluation that goes well, over variables that there are. -/
theorem EvalPost.vars {E : Nat → Addr} {g bv : Nat} {m : Vs} {w : World} {ex : Ex} {t : Tok} {x : Int} {set : Vs} {e : Ending} {w' : World} (hv : VarsIn w g bv m) (hx : ev (mach m) ex [] = .ok x set) (h : EvalPost E (.pointer (some ⟨g, 0, none⟩)) m w (.ok ex t) e w') :
    e = .returned (.tuple #[.int .i64 x, .nilIface]) ∧ VarsIn w' g bv (over set m) ∧ w.grownBy w' (some bv) := by
  have h : CodePost _ _ _ _ _ _ _ := h
  rw [hx] at h
  obtain ⟨he, h⟩ := h
  refine ⟨he, ?_⟩
  rcases h with ⟨hp, _⟩ | ⟨g', bv', hp, h0, h1, h2⟩
  · cases hp
  · simp only [Value.pointer.injEq, Option.some.injEq, Addr.mk.injEq, and_true] at hp
    subst hp
    obtain rfl := hv.inj h0
    exact ⟨h1, h2⟩
theorem EvalPost.nil {E : Nat → Addr} {w : World} {ex : Ex} {t : Tok} {x : Int} {set : Vs} {e : Ending} {w' : World} (hx : ev (mach []) ex [] = .ok x set) (h : EvalPost E (.pointer none) [] w (.ok ex t) e w') :
    e = .returned (.tuple #[.int .i64 x, .nilIface]) ∧ Below w.heap.size w w' := by
  have h : CodePost _ _ _ _ _ _ _ := h
  rw [hx] at h
  obtain ⟨he, h⟩ := h
  refine ⟨he, ?_⟩
  rcases h with ⟨_, h⟩ | ⟨g', bv', hp, _⟩
  · exact h
  · cases hp
theorem EvalPost.bad {E : Nat → Addr} {pv : Value} {m : Vs} {w : World} {ex : Ex} {t : Tok} {c p : Nat} {e : Ending} {w' : World} (hx : ev (mach m) ex [] = .err c p) (h : EvalPost E pv m w (.ok ex t) e w') :
    ∃ v, e = .returned (.tuple #[.int .i64 0, v]) ∧ ErrV E w' v c p 1 ∧ Below w.heap.size w w' := by
  have h : CodePost _ _ _ _ _ _ _ := h
  rw [hx] at h
  exact h
end Go.Proofs.YtjllmamblkejjaaGreatDoor
end

/- The laws' awake: a value that every program must know. No conditions. -/
section
set_option linter.unusedVariables false
set_option linter.unusedSimpArgs false
namespace Go.Proofs.YtjllmamblkejjaaGreatDoor
open Go.RowKit Go.Proofs.YtjllmamblkejjaaGreatDoorW.PrintWords Go.Proofs.YtjllmamblkejjaaGreatDoorW.PrintLast Go.Proofs.YtjllmamblkejjaaGreatDoorW.PrintMore
open PQA PQB Sp

theorem rb_lit {w : World} {q : Nat} {l : Bs} {fr : Nat × Nat} (hl : l.length ≤ 1000000000) (h : w.heap[q]? = some (.cells (l.map fun c => Value.int .u8 (c.toNat : Int)).toArray 5 fr)) : Rb w (some ⟨q, 0, none⟩) l := by
  refine Kd.C_of_reads (d := 0) (h1 := fun _ => rfl) ⟨ints_length l, by omega, fun _ => ⟨_, rfl, fun j hj => ?_⟩⟩
  have ha : (⟨q, 0, none⟩ : Addr).add j = ⟨q, j, none⟩ := by simp [Addr.add]; omega
  rw [ha, cell_of_row w q j _ _ fr h]
  simp [ints, hj]
theorem two_add (x y : Int) : two [43] x y = wrap64 (x + y) := by
  unfold two acode_two.f
  rw [mk_toList, if_pos rfl]; rfl
theorem two_mul (x y : Int) : two [42] x y = wrap64 (x * y) := by
  unfold two acode_two.f
  rw [mk_toList, if_neg (by decide), if_neg (by decide), if_pos rfl]; rfl
theorem VarsIn.at_ {w : World} {g bv : Nat} {m : Vs} (h : VarsIn w g bv m) : VarsAt w (.pointer (some ⟨g, 0, none⟩)) m := .inr ⟨g, bv, rfl, h⟩
def awakeB : Bs := [49, 43, 50, 42, 51]
theorem awake_parsed : parsed awakeB = .ok (.bin [43] 1 (.num 1 0) (.bin [42] 3 (.num 2 2) (.num 3 4))) ⟨[], 5, 5, 0, false, []⟩ := by kernel_rfl
theorem ev_bin {M : Mach} {op : Bs} {pos : Nat} {a b : Ex} {s : Vs} (h1 : op ≠ [38, 38]) (h2 : op ≠ [124, 124]) : ev M (.bin op pos a b) s = (ev M a s).bind fun x s => (ev M b s).bind fun y s => two1 M op pos x y s := by
  rw [ev, if_neg h1, if_neg h2]
theorem two1_ok {M : Mach} {op : Bs} {pos : Nat} {x y : Int} {s : Vs} (h : ¬ (y = 0 ∧ divides op)) : two1 M op pos x y s = .ok (M.two op x y) s := by unfold two1; rw [if_neg h]
theorem awake_ev (m : Vs) (s : Vs) : ev (mach m) (.bin [43] 1 (.num 1 0) (.bin [42] 3 (.num 2 2) (.num 3 4))) s = .ok 7 s := by
  rw [ev_bin (by decide) (by decide)]
  show (ev (mach m) (.bin [42] 3 (.num 2 2) (.num 3 4)) s).bind (fun y s => two1 (mach m) [43] 1 1 y s) = _
  rw [ev_bin (by decide) (by decide)]
  show (two1 (mach m) [42] 3 2 3 s).bind (fun y s => two1 (mach m) [43] 1 1 y s) = _
  rw [two1_ok (by intro h; exact absurd h.1 (by decide))]
  show two1 (mach m) [43] 1 1 (two [42] 2 3) s = _
  rw [two_mul, show wrap64 (2 * 3) = 6 by unfold wrap64; decide]
  rw [two1_ok (by intro h; exact absurd h.1 (by decide))]
  show Val.ok (two [43] 1 6) s = _
  rw [two_add, show wrap64 (1 + 6) = 7 by unfold wrap64; decide]
set_option maxHeartbeats 4000000 in
set_option maxRecDepth 100000 in
theorem awake_calls (E : Nat → Addr) (w : World) (hE : Env E w) : Calls Tryz.prog 9 #[] w fun e w' => e = .returned (.bool true) ∧ Below w.heap.size w w' := by
  have kc := fun (w : World) (C : Array Value) (n c : Nat) => Lib.run_convert_bytes_const (P := Tryz.prog) w 22 5 C n c Tryz.underlying22 Tryz.underlying5
  have HE := Aside0.mk hE
  clear hE
  go_enter Tryz.func9, Tryz.ntmps9
  go_wp2_with fail
  with_reducible refine (new_calls _).mono ?_
  rintro e w1 ⟨g, bv, rfl, hv, hg, hbv, hb⟩
  have hq := (hb.block w.heap.size (by simp)).trans (heap_new (w := w) (W := w) rfl _)
  have HR := Aside0.mk (rb_lit (w := w1) (q := w.heap.size) (l := awakeB) (by decide) hq)
  have HV := Aside0.mk hv
  have HB := Aside0.mk (below_then (below_alloc (Below.refl _ w) _) (by simp) hb)
  have HG := Aside0.mk (And.intro hg hbv)
  clear hv hg hbv hb hq kc
  go_wp2_with fail
  with_reducible refine (eval_at E awakeB (some ⟨w.heap.size, 0, none⟩) 5 _ (by decide) (.pointer (some ⟨g, 0, none⟩)) [] _ (HE.out.below HB.out) HR.out (by decide) HV.out.at_ (by simp)).mono ?_
  rintro e w2 hp
  rw [awake_parsed] at hp
  obtain ⟨rfl, hv2, hgr⟩ := hp.vars HV.out (awake_ev _ _)
  have HX := Aside0.mk hgr
  clear hv2 hgr hp
  go_wp2_with fail
  go_ret
  exact ⟨rfl, HB.out.grown HX.out HB.out.size (fun k hk => by cases hk; have := HG.out.2; simp at this; omega)⟩
end Go.Proofs.YtjllmamblkejjaaGreatDoor
end

/- The package-level variables: what the rows' condition on them gives the walks (Env), and a start that meets it. No conditions. -/
section
set_option linter.unusedVariables false
set_option linter.unusedSimpArgs false
namespace Go.Proofs.YtjllmamblkejjaaGreatDoor
open Go.ChangeShapes Go.WideShapes Go.ChangeAt Go.RowKit

/-- The errors: the variable's name, its number, its text. -/
def errL : List (String × Nat × List UInt8) := [("pidgin/fault.errArg", 0, [97, 114, 103, 117, 109, 101, 110, 116]), ("pidgin/fault.errLong", 1, [108, 111, 110, 103]), ("pidgin/fault.errSyntax", 2, [115, 121, 110, 116, 97, 120]), ("pidgin/fault.errDeep", 3, [100, 101, 101, 112]), ("pidgin/fault.errMany", 4, [109, 97, 110, 121]), ("pidgin/fault.errNumber", 5, [110, 117, 109, 98, 101, 114]), ("pidgin/fault.errRange", 6, [114, 97, 110, 103, 101]), ("pidgin/fault.errBracket", 7, [98, 114, 97, 99, 107, 101, 116]), ("pidgin/fault.errGroup", 8, [103, 114, 111, 117, 112]), ("pidgin/fault.errEscape", 9, [101, 115, 99, 97, 112, 101]), ("pidgin/fault.errStates", 11, [115, 116, 97, 116, 101, 115]), ("pidgin/fault.errDivide", 12, [100, 105, 118, 105, 100, 101]), ("pidgin/fault.errValue", 13, [118, 97, 108, 117, 101]), ("pidgin/fault.errOperand", 14, [111, 112, 101, 114, 97, 110, 100]), ("pidgin/fault.errName", 15, [110, 97, 109, 101]), ("pidgin/fault.errFile", 16, [102, 105, 108, 101]), ("pidgin/fault.errDir", 17, [100, 105, 114]), ("pidgin/fault.errExists", 18, [101, 120, 105, 115, 116, 115]), ("pidgin/fault.errFull", 19, [102, 117, 108, 108]), ("pidgin/fault.errLabel", 20, [108, 97, 98, 101, 108]), ("pidgin/fault.errFuel", 21, [102, 117, 101, 108])]
def sentD {H : Type} (x : String × Nat × List UInt8) : String × DataW H := (x.1, .iface "*errors.errorString" (.ptr (.agg [.lit (.string x.2.2)])))

theorem starS : "*errors.errorString" = "*" ++ "errors.errorString" := by decide
theorem Tryz.rowES (u : TypeId) (h : Tryz.prog.typeName? 3 u = some "*errors.errorString") : u = 233 :=
  typeName_ptr_named (nm := "errors.errorString") (by rw [← starS]; kernel_rfl) (by kernel_rfl) (by decide) u (by rw [← starS]; exact h)
theorem Tryz.cellsES : Tryz.prog.cellsOf 252 = 1 := by kernel_rfl
theorem Tryz.cellsStr : Tryz.prog.cellsOf 9 = 1 := by kernel_rfl
theorem errL_ok : ∀ x ∈ errL, Tryz.prog.globalNamed x.1 = some x.2.1 ∧ (Tryz.prog.globals[x.2.1]?).map (·.type) = some 27 := by
  intro x hx
  unfold errL at hx
  simp only [List.mem_cons, List.not_mem_nil, or_false] at hx
  rcases hx with rfl | rfl | rfl | rfl | rfl | rfl | rfl | rfl | rfl | rfl | rfl | rfl | rfl | rfl | rfl | rfl | rfl | rfl | rfl | rfl | rfl <;> exact ⟨by kernel_rfl, by kernel_rfl⟩

set_option maxRecDepth 100000 in
theorem sents (W : World) : ∀ (l : List (String × Nat × List UInt8)) (ps : List MemPlace),
    (∀ x ∈ l, Tryz.prog.globalNamed x.1 = some x.2.1 ∧ (Tryz.prog.globals[x.2.1]?).map (·.type) = some 27) →
    DataW.LaidVars Tryz.prog W (l.map sentD) ps → ps.Nodup →
    (∀ b off, MemPlace.cell b off ∈ ps → (∃ c t, W.heap[b]? = some (.cells c t (0, 0))) ∧ ∀ u v, W.cell? ⟨b, off, none⟩ = some (.iface u v) → Value.okWide Tryz.prog W .any 0 u v) →
    ∃ bs : List Addr, bs.Nodup ∧ (∀ a ∈ bs, MemPlace.cell a.block a.off ∈ ps) ∧
      ∀ (i : Nat) (x : String × Nat × List UInt8), l[i]? = some x → ∃ a, bs[i]? = some a ∧ W.cell? ⟨x.2.1, 0, none⟩ = some (.iface 233 (.pointer (some a))) ∧ ∃ c t, W.heap[a.block]? = some (.cells c t (0, 0))
  | [], ps, _, _, _, _ => ⟨[], by simp, by simp, by simp⟩
  | x :: l, ps, hl, hv, hn, hr => by
    obtain ⟨g, t, cs, f, p, q, hg, ht, hvar, hd, hq, rfl⟩ := hv
    obtain ⟨e1, e2⟩ := hl x List.mem_cons_self
    obtain rfl := Option.some.inj (e1.symm.trans hg)
    obtain rfl := Option.some.inj (e2.symm.trans ht)
    obtain ⟨bs, ha, hm, hi⟩ := sents W l q (fun y hy => hl y (List.mem_cons_of_mem _ hy)) hq (List.Nodup.sublist (List.sublist_append_right _ _) hn) (fun b off hb => hr b off (List.mem_append_right _ hb))
    obtain ⟨l0⟩ := cs
    have ok0 : ∀ u v, l0 = [.iface u v] → Value.okWide Tryz.prog W .any 0 u v := fun u v e => by
      subst e
      exact (hr x.2.1 0 (by simp [MemPlace.row])).2 u v (by simpa using World.var?_cell hg hvar 0)
    obtain ⟨a, s, rfl, hc, hs, hz, rfl⟩ := errorString_of_trod Tryz.underlying27 Tryz.rowES Tryz.underlying233 Tryz.underlying252 rfl rfl Tryz.underlying9 Tryz.cellsES Tryz.cellsStr hd ok0
    have hin : MemPlace.cell a.block a.off ∈ MemPlace.row a 1 := by simp [MemPlace.row]
    refine ⟨a :: bs, List.nodup_cons.2 ⟨fun hin' => ?_, ha⟩, fun b hb => ?_, fun i y hy => ?_⟩
    · have h1 := hm a hin'
      rw [List.append_assoc] at hn
      have h2 := (List.nodup_append.1 (List.Nodup.sublist (List.sublist_append_right _ _) hn)).2.2
      exact h2 _ hin _ h1 rfl
    · rcases List.mem_cons.1 hb with rfl | hb
      · exact List.mem_append_left _ (List.mem_append_right _ hin)
      · exact List.mem_append_right _ (hm b hb)
    · cases i with
      | zero =>
        simp only [List.getElem?_cons_zero, Option.some.injEq] at hy
        subst hy
        exact ⟨a, rfl, by simpa using World.var?_cell hg hvar 0, (hr a.block a.off (List.mem_append_left _ (List.mem_append_right _ hin))).1⟩
      | succ i => exact hi i y (by simpa using hy)

/-- The list as the rows bear it. -/
abbrev lay : List (String × DataW Unit) := Rows.arithNilRow.laid
theorem lay_data : (lay.filter fun x => x.2.handleName?.isNone) = ("unicode.White_Space", Rows.laid_unicode_White_Space) :: ("strings.asciiSpace", Lib.tabData .u8 Lib.asciiSpaceTab) :: errL.map sentD := by kernel_rfl
theorem lay_hand : (lay.filter fun x => x.2.handleName?.isSome) = [("errors.errorType", Rows.laid_errors_errorType)] := by kernel_rfl
theorem gl_errL : ∀ k, 1 ≤ k → k ≤ 21 → ∃ n tx, errL[k - 1]? = some (n, gl k, tx) := by
  intro k h1 h2
  have hk : k = 1 ∨ k = 2 ∨ k = 3 ∨ k = 4 ∨ k = 5 ∨ k = 6 ∨ k = 7 ∨ k = 8 ∨ k = 9 ∨ k = 10 ∨ k = 11 ∨ k = 12 ∨ k = 13 ∨ k = 14 ∨ k = 15 ∨ k = 16 ∨ k = 17 ∨ k = 18 ∨ k = 19 ∨ k = 20 ∨ k = 21 := by omega
  rcases hk with rfl | rfl | rfl | rfl | rfl | rfl | rfl | rfl | rfl | rfl | rfl | rfl | rfl | rfl | rfl | rfl | rfl | rfl | rfl | rfl | rfl <;> exact ⟨_, _, rfl⟩

theorem Tryz.etG : Tryz.prog.globalNamed "errors.errorType" = some 10 := by kernel_rfl
theorem Tryz.rtG : (Tryz.prog.cutTypes.find? (·.1 == "internal/reflectlite.rtype")).map (·.2) = some 165 := by kernel_rfl
theorem Tryz.oneRow : ((List.range Tryz.prog.types.size).filter fun t => Tryz.prog.rowNamed t [101, 114, 114, 111, 114]) = [27] := by kernel_rfl
theorem Tryz.hError : typeHandle Tryz.prog 27 = .pointer (some ⟨25, 27, none⟩) := by kernel_rfl
theorem Tryz.spType : (Tryz.prog.globals[22]?).map (·.type) = some 209 := by kernel_rfl
theorem Tryz.cellsU8 : Tryz.prog.cellsOf 5 = 1 := by kernel_rfl
theorem Tryz.cellsTab : Tryz.prog.cellsOf 209 = 256 := by kernel_rfl

/-- WHAT THE CONDITION GIVES THE WALKS. -/
theorem env_of_laid {W : World} (h : laidMetH Tryz.prog lay W) : ∃ E, Env E W := by
  have h' : laidMet Tryz.prog (lay.filter fun x => x.2.handleName?.isNone) W ∧ handlesMet Tryz.prog [("errors.errorType", Rows.laid_errors_errorType)] W := by
    unfold laidMetH at h
    rw [lay_hand] at h
    exact h
  obtain ⟨hd, hh⟩ := h'
  rw [lay_data] at hd
  have htab := Lib.tabIs_of_head Tryz.gSpace Tryz.spType Tryz.underlying209 Tryz.underlying5 Tryz.cellsU8 Tryz.cellsTab hd.tail
  obtain ⟨ps, hv, hn, hr⟩ := hd.tail.tail
  obtain ⟨bs, ha, _, hi⟩ := sents W errL ps errL_ok hv hn hr
  refine ⟨fun k => bs.getD (k - 1) default, fun k h1 h2 => ?_, fun k h1 h2 => ?_, fun k j h1 h2 h3 h4 hne he => ?_, ?_, htab⟩
  · obtain ⟨n, tx, hk⟩ := gl_errL k h1 h2
    obtain ⟨a, h5, h6, _⟩ := hi _ _ hk
    simpa [List.getD, h5] using h6
  · obtain ⟨n, tx, hk⟩ := gl_errL k h1 h2
    obtain ⟨a, h5, _, h7⟩ := hi _ _ hk
    simpa [List.getD, h5] using h7
  · obtain ⟨n, tx, hk⟩ := gl_errL k h1 h2
    obtain ⟨a, h5, _, _⟩ := hi _ _ hk
    obtain ⟨n', tx', hk'⟩ := gl_errL j h3 h4
    obtain ⟨a', h5', _, _⟩ := hi _ _ hk'
    have he' : a = a' := by simpa [List.getD, h5, h5'] using he
    obtain ⟨hlt, e1⟩ := List.getElem?_eq_some_iff.1 h5
    obtain ⟨hlt', e2⟩ := List.getElem?_eq_some_iff.1 h5'
    have : k - 1 = j - 1 := (List.getElem_inj ha).1 (e1.trans (he'.trans e2.symm))
    omega
  · obtain ⟨name, u, ty, e1, e2, e3, e4, e5⟩ := hh _ (List.mem_singleton.2 rfl)
    have en : name = [101, 114, 114, 111, 114] := (Option.some.inj e1).symm
    subst en
    obtain rfl := Option.some.inj (Tryz.rtG.symm.trans e2)
    have hm : ty ∈ (List.range Tryz.prog.types.size).filter fun t => Tryz.prog.rowNamed t [101, 114, 114, 111, 114] := List.mem_filter.2 ⟨List.mem_range.2 e3, e4⟩
    rw [Tryz.oneRow] at hm
    obtain rfl := List.mem_singleton.1 hm
    rw [Tryz.hError] at e5
    simpa using World.var?_cell Tryz.etG e5 0
end Go.Proofs.YtjllmamblkejjaaGreatDoor
end

/- A start that meets the rows' condition on the package-level variables: the heap that the program's own initialisers leave. No conditions. -/
section
set_option linter.unusedVariables false
set_option linter.unusedSimpArgs false
namespace Go.Proofs.YtjllmamblkejjaaGreatDoor
open Go.ChangeShapes Go.WideShapes Go.ChangeAt Go.RowKit

theorem Tryz.ownK : ownKnob Tryz.prog.godebug = none := by kernel_rfl
/-- The door's own heap meets the condition. -/
theorem door_met (os : Os) (args : Array Value) : laidMetH Tryz.prog lay ((World.doorLaid Tryz.prog 439 os).forCall (fun _ _ => 0) ⟨#[], args, []⟩).memory :=
  laidMetH_of_parts (laidMet_of_run' 8 (by kernel_rfl) (by kernel_rfl)) (by kernel_rfl)
theorem door_shaped (os : Os) (args : Array Value) : ((World.doorLaid Tryz.prog 439 os).forCall (fun _ _ => 0) ⟨#[], args, []⟩).Shaped Tryz.prog := World.shaped_of_RefB (by kernel_rfl) (by kernel_rfl)

theorem lay_heap {w w' : World} (hh : w.heap = w'.heap) (h : laidMetH Tryz.prog lay w) : laidMetH Tryz.prog lay w' := laidMetH.of_heap hh h
end Go.Proofs.YtjllmamblkejjaaGreatDoor
end
