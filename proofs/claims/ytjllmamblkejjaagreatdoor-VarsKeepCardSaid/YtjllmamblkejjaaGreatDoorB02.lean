/- A part of the proof: texts of ours, joined by a program, each in a section of its own; what each proves, and under what conditions, stands ahead of it. -/
import Derived.Test.YtjllmamblkejjaaGreatDoorB01
import Derived.Deep.LoopGhost
import Derived.Recover
import Derived.Defers
import Derived.Deep.AppendLies
import Derived.Deep.RegionHeld3
import Derived.Deep.RegionLaw

/- What (*arith.reader).operand comes to: the other cases. No conditions. -/
section
set_option linter.unusedVariables false
set_option linter.unusedSimpArgs false
namespace Go.Proofs.YtjllmamblkejjaaGreatDoor
open Go.RowKit Go.Proofs.YtjllmamblkejjaaGreatDoorW.PrintWords Go.Proofs.YtjllmamblkejjaaGreatDoorW.PrintLast Go.Proofs.YtjllmamblkejjaaGreatDoorW.PrintMore
open PQA Sp

theorem constant_rests (E : Nat → Addr) (w0 : World) (b : Bs) (g : Nat) (w : World) (t : Tok) (r : Res Ex) (hE : Env E w0) (hlen : b.length ≤ 1024) (h : Rests w0 w w g b t) (hr : constant b t = r) :
    Calls Tryz.prog 137 #[.pointer (some ⟨g, 0, none⟩)] w (PPost E w0 w g b r) := by
  subst hr
  exact constant_calls E b t g w0 w hE h.rd h.below h.ok hlen

theorem bar_rests (E : Nat → Addr) (w0 : World) (b : Bs) (g : Nat) (w W : World) (t : Tok) (c p : Nat) (hc : bar (α := Ex) t = .err c p) (hE : Env E w0) (h : Rests w0 w W g b t) :
    Calls Tryz.prog 40 #[.pointer (some ⟨g, 0, none⟩)] W fun e w' => Panics E w0 c p e w' := by
  obtain ⟨rfl, rfl⟩ : (if t.over then 6 else 3) = c ∧ t.pos = p := by injection hc with h1 h2; exact ⟨h1, h2⟩
  exact (bar_calls E b t g w0 W (hE.below h.below) h.rd).mono fun e w' hp => hp.mono h.below
theorem IsRd.op {w0 W : World} {g : Nat} {b : Bs} {t : Tok} (h : IsRd w0 W g b t) : W.cell? ⟨g, 1, none⟩ = some (.string (mk t.op)) := by
  obtain ⟨A, c, hg, _⟩ := h
  exact (blk_cell hg 1).trans rfl
theorem IsRd.pos {w0 W : World} {g : Nat} {b : Bs} {t : Tok} (h : IsRd w0 W g b t) : W.cell? ⟨g, 2, none⟩ = some (.int .i64 (t.pos : Int)) := by
  obtain ⟨A, c, hg, _⟩ := h
  exact (blk_cell hg 2).trans rfl
/-- What was laid from block lo on lies in W as in w, but for the reader. -/
structure Kept (w : World) (lo g : Nat) (W : World) : Prop where
  size : w.heap.size ≤ W.heap.size
  block : ∀ k, lo ≤ k → k < w.heap.size → k ≠ g → W.heap[k]? = w.heap[k]?
theorem Kept.refl (w : World) (lo g : Nat) : Kept w lo g w := ⟨Nat.le_refl _, fun _ _ _ _ => rfl⟩
theorem Kept.step {w W W' : World} {lo g : Nat} (h : Kept w lo g W) (k : KeepBut W W' g none) : Kept w lo g W' :=
  ⟨Nat.le_trans h.size k.1, fun i h1 h2 h3 => (k.2 i (Nat.lt_of_lt_of_le h2 h.size) h3 (by simp)).trans (h.block i h1 h2 h3)⟩
theorem Kept.alloc {w W : World} {lo g : Nat} (h : Kept w lo g W) (o : Obj) : Kept w lo g (W.alloc o) :=
  h.step (KeepBut.of_below (below_alloc (Below.refl _ _) o) g none)
theorem Kept.drew {w W : World} {lo g : Nat} (h : Kept w lo g W) : Kept w lo g W.drew := ⟨h.size, h.block⟩
theorem Kept.drewN {w W : World} {lo g : Nat} (h : Kept w lo g W) (n : Nat) : Kept w lo g (W.drewN n) := ⟨h.size, h.block⟩
theorem Kept.put {w W : World} {lo g : Nat} (h : Kept w lo g W) {p : Addr} (hp : p.block < lo ∨ w.heap.size ≤ p.block) (u : Value) : Kept w lo g (W.setCell p u) :=
  ⟨by simpa [World.setCell] using h.size, fun i h1 h2 h3 => (Below.heap_setCell W p u i (by omega)).trans (h.block i h1 h2 h3)⟩
theorem Tr.stays {w W : World} {lo g : Nat} {ex : Ex} {cs : List Value} {gc : Array Value} {gt : TypeId} (h : Tr w lo ex cs) (hk : Kept w lo g W) (hg : w.heap[g]? = some (.cells gc gt (0, 0))) (ht : gt ≠ 63) : Tr W lo ex cs :=
  Tr.keep (fun k _ hl hc => hk.block k hl (blk_lt hc) (fun e => blk_ne (e ▸ hg) hc ht rfl)) ex cs h
theorem heap_at {W : World} {n : Nat} (h : W.heap.size = n) (o : Obj) : (W.alloc o).heap[n]? = some o := by
  subst h; exact heap_alloc_new W o
theorem bar_err (t : Tok) : ∃ c p, bar (α := Ex) t = .err c p := ⟨_, _, rfl⟩

set_option maxHeartbeats 4000000 in
set_option maxRecDepth 100000 in
theorem operand_num (E : Nat → Addr) (w0 : World) (b : Bs) (f : Nat) (hE : Env E w0) (hlen : b.length ≤ 1024) (g : Nat) (w : World) (t : Tok) (r : Res Ex) (hI : Rests w0 w w g b t)
    (hop : t.op = wNum) (hr : operand b (f + 1) t = r) (hro : r ≠ .out) :
    Calls Tryz.prog 119 #[.pointer (some ⟨g, 0, none⟩)] w (PPost E w0 w g b r) := by
  have HI := Aside0.mk hI
  have HE := Aside0.mk hE
  have hglt := hI.lt
  obtain ⟨A, c, hg, hge, hc, hC⟩ := hI.rd
  have hk1 : w.cell? ⟨g, 1, none⟩ = some (.string (mk t.op)) := (blk_cell hg 1).trans rfl
  have hk2 : w.cell? ⟨g, 2, none⟩ = some (.int .i64 (t.pos : Int)) := (blk_cell hg 2).trans rfl
  have hk3 : w.cell? ⟨g, 3, none⟩ = some (.int .i64 (t.fin : Int)) := (blk_cell hg 3).trans rfl
  have hk4 : w.cell? ⟨g, 4, none⟩ = some (.int .i64 (t.num : Int)) := (blk_cell hg 4).trans rfl
  have hk5 : w.cell? ⟨g, 5, none⟩ = some (.bool t.over) := (blk_cell hg 5).trans rfl
  have hk6 : w.cell? ⟨g, 6, none⟩ = some (.string (mk t.name)) := (blk_cell hg 6).trans rfl
  clear hg hC hE hI
  rw [operand, if_neg (by rw [hop]; decide), if_neg (by rw [hop]; decide), if_pos hop] at hr
  have HR := Aside0.mk hr
  clear hr
  · skip
    have ho0 := op_no (op := t.op) (v := [43]) (by rw [hop]; decide)
    have ho1 := op_no (op := t.op) (v := [45]) (by rw [hop]; decide)
    have ho2 := op_no (op := t.op) (v := [33]) (by rw [hop]; decide)
    have ho3 := op_no (op := t.op) (v := [126]) (by rw [hop]; decide)
    have ho4 := op_yes (op := t.op) (v := [110, 117, 109]) (by exact hop)
    clear hop
    have HS := Aside0.mk (Rests.self ((HI.out.alloc (.cells #[.string ⟨#[]⟩, .int .i64 0, .string ⟨#[]⟩, .int .i64 0, .int .i64 0, .slice none 0 0] 63)).alloc (.cells #[.string (mk t.op), .int .i64 (t.pos : Int), .int .i64 (t.fin : Int), .int .i64 (t.num : Int), .bool t.over, .string (mk t.name)] 75)))
    cases hx : constant b t with
    | out => exact absurd HR.out (by rw [hx]; exact fun h => hro h.symm)
    | err c p =>
      obtain rfl : r = .err c p := by rw [← HR.out, hx]
      have HCl := Aside0.mk (fun W h => constant_rests E w0 b g W t _ HE.out hlen h hx)
      clear hx HR hro
      go_enter Tryz.func119, Tryz.ntmps119
      go_wp2_with fail
      with_reducible refine (HCl.out _ HS.out).mono ?_
      rintro e w2 ⟨v, rfl, hv, hb⟩
      go_wp2_with fail
      exact ⟨rfl, v, rfl, hv, hb⟩
    | ok e1 t1 =>
      obtain rfl : r = .ok e1 t1 := by rw [← HR.out, hx]
      have HCl := Aside0.mk (fun W h => constant_rests E w0 b g W t _ HE.out hlen h hx)
      clear hx HR hro
      go_enter Tryz.func119, Tryz.ntmps119
      go_wp2_with fail
      with_reducible refine (HCl.out _ HS.out).mono ?_
      rintro e w2 ⟨⟨s0, n1, s2, n3, n4, A2, n2, c2, rfl, hTr⟩, hI2⟩
      have hK2 := hI2.keep
      have hr2 : w2.heap[w.heap.size]? = _ := hK2.blk (new0 w _ _ 0) (by omega) (by simp)
      have hd0 : w2.cell? ⟨w.heap.size, 0, none⟩ = some (.string ⟨#[]⟩) := (blk_cell hr2 0).trans rfl; have hd1 : w2.cell? ⟨w.heap.size, 1, none⟩ = some (.int .i64 0) := (blk_cell hr2 1).trans rfl; have hd2 : w2.cell? ⟨w.heap.size, 2, none⟩ = some (.string ⟨#[]⟩) := (blk_cell hr2 2).trans rfl; have hd3 : w2.cell? ⟨w.heap.size, 3, none⟩ = some (.int .i64 0) := (blk_cell hr2 3).trans rfl; have hd4 : w2.cell? ⟨w.heap.size, 4, none⟩ = some (.int .i64 0) := (blk_cell hr2 4).trans rfl; have hd5 : w2.cell? ⟨w.heap.size, 5, none⟩ = some (.slice none 0 0) := (blk_cell hr2 5).trans rfl; have hf0 := blk_frozen hr2 0; have hf1 := blk_frozen hr2 1; have hf2 := blk_frozen hr2 2; have hf3 := blk_frozen hr2 3; have hf4 := blk_frozen hr2 4; have hf5 := blk_frozen hr2 5
      have HR2 := Aside0.mk hr2
      have HTr := Aside0.mk hTr
      have HI2 := Aside0.mk (Rests.trans ((HI.out.alloc _).alloc _) hI2)
      clear hTr hI2 hK2 hr2
      go_wp2_with fail
      refine ret_gen fun W hW => ?_
      have hRes := (congrArg (fun x : World => x.heap[w.heap.size]?) hW).trans (blk_six HR2.out _ _ _ _ _ _)
      have hRW : Rests w0 w W g b t1 := by rw [hW]; exact (by repeat (first | (with_reducible exact HI2.out) | (with_reducible apply Rests.drewN) | (with_reducible apply Rests.drew) | (with_reducible apply Rests.alloc) | (with_reducible refine Rests.put ?_ (by first | (simp; done) | (simp; omega)) _)))
      have hTW := Tr.under (w' := W) (r := w.heap.size) HTr.out (by rw [hW]; repeat (first | (with_reducible exact KeepBut.refl _ _ _) | (with_reducible apply KeepBut.set_) | (with_reducible apply keep_alloc))) (by simp; omega)
      have hq0 := (blk_cell hRes 0).trans rfl; have hq1 := (blk_cell hRes 1).trans rfl; have hq2 := (blk_cell hRes 2).trans rfl; have hq3 := (blk_cell hRes 3).trans rfl; have hq4 := (blk_cell hRes 4).trans rfl; have hq5 := (blk_cell hRes 5).trans rfl
      clear hW
      refine bodyPost_ret (v := .agg #[.string s0, .int .i64 n1, .string s2, .int .i64 n3, .int .i64 n4, .slice A2 n2 c2]) (by simp [results, Tryz.results119, go_sem, hq0, hq1, hq2, hq3, hq4, hq5]; try rfl) rfl ⟨⟨_, _, _, _, _, _, _, _, rfl, Tr.lo (by simp; omega) _ _ hTW⟩, hRW⟩

set_option maxHeartbeats 4000000 in
set_option maxRecDepth 100000 in
theorem operand_name (E : Nat → Addr) (w0 : World) (b : Bs) (f : Nat) (hE : Env E w0) (hlen : b.length ≤ 1024) (g : Nat) (w : World) (t : Tok) (r : Res Ex) (hI : Rests w0 w w g b t)
    (hop : t.op = wName) (hr : operand b (f + 1) t = r) (hro : r ≠ .out) :
    Calls Tryz.prog 119 #[.pointer (some ⟨g, 0, none⟩)] w (PPost E w0 w g b r) := by
  have HI := Aside0.mk hI
  have HE := Aside0.mk hE
  have hglt := hI.lt
  obtain ⟨A, c, hg, hge, hc, hC⟩ := hI.rd
  have hk1 : w.cell? ⟨g, 1, none⟩ = some (.string (mk t.op)) := (blk_cell hg 1).trans rfl
  have hk2 : w.cell? ⟨g, 2, none⟩ = some (.int .i64 (t.pos : Int)) := (blk_cell hg 2).trans rfl
  have hk3 : w.cell? ⟨g, 3, none⟩ = some (.int .i64 (t.fin : Int)) := (blk_cell hg 3).trans rfl
  have hk4 : w.cell? ⟨g, 4, none⟩ = some (.int .i64 (t.num : Int)) := (blk_cell hg 4).trans rfl
  have hk5 : w.cell? ⟨g, 5, none⟩ = some (.bool t.over) := (blk_cell hg 5).trans rfl
  have hk6 : w.cell? ⟨g, 6, none⟩ = some (.string (mk t.name)) := (blk_cell hg 6).trans rfl
  clear hg hC hE hI
  rw [operand, if_neg (by rw [hop]; decide), if_neg (by rw [hop]; decide), if_neg (by rw [hop]; decide), if_pos hop] at hr
  have HR := Aside0.mk hr
  clear hr
  · skip
    have ho0 := op_no (op := t.op) (v := [43]) (by rw [hop]; decide)
    have ho1 := op_no (op := t.op) (v := [45]) (by rw [hop]; decide)
    have ho2 := op_no (op := t.op) (v := [33]) (by rw [hop]; decide)
    have ho3 := op_no (op := t.op) (v := [126]) (by rw [hop]; decide)
    have ho4 := op_no (op := t.op) (v := [110, 117, 109]) (by rw [hop]; decide)
    have ho5 := op_yes (op := t.op) (v := [110, 97, 109, 101]) (by exact hop)
    clear hop
    go_enter Tryz.func119, Tryz.ntmps119
    go_wp2_with fail
    with_reducible refine (pass_rests b t g w0 w _ (by repeat (first | (with_reducible exact HI.out) | (with_reducible apply Rests.drewN) | (with_reducible apply Rests.drew) | (with_reducible apply Rests.alloc) | (with_reducible refine Rests.put ?_ (by first | (simp; done) | (simp; omega)) _))) hlen).mono ?_
    rintro e w1 ⟨rfl, hI1, hK1⟩
    have hr1 : w1.heap[w.heap.size]? = _ := hK1.blk (new0 w _ _ 0) (by omega) (by simp)
    have ht1 : w1.heap[w.heap.size + 1]? = _ := hK1.blk (new1 w _ _ 0) (by omega) (by simp)
    have HI1 := Aside0.mk hI1
    have HR1 := Aside0.mk hr1
    have HT1 := Aside0.mk ht1
    have hltr : w.heap.size + 1 < w1.heap.size := blk_lt ht1
    obtain rfl := HR.out
    have he1 : w1.cell? ⟨w.heap.size + 1, 1, none⟩ = some (.int .i64 (t.pos : Int)) := (blk_cell ht1 1).trans rfl
    have he5 : w1.cell? ⟨w.heap.size + 1, 5, none⟩ = some (.string (mk t.name)) := (blk_cell ht1 5).trans rfl
    have hd0 : w1.cell? ⟨w.heap.size, 0, none⟩ = some (.string ⟨#[]⟩) := (blk_cell hr1 0).trans rfl; have hd1 : w1.cell? ⟨w.heap.size, 1, none⟩ = some (.int .i64 0) := (blk_cell hr1 1).trans rfl; have hd2 : w1.cell? ⟨w.heap.size, 2, none⟩ = some (.string ⟨#[]⟩) := (blk_cell hr1 2).trans rfl; have hd3 : w1.cell? ⟨w.heap.size, 3, none⟩ = some (.int .i64 0) := (blk_cell hr1 3).trans rfl; have hd4 : w1.cell? ⟨w.heap.size, 4, none⟩ = some (.int .i64 0) := (blk_cell hr1 4).trans rfl; have hd5 : w1.cell? ⟨w.heap.size, 5, none⟩ = some (.slice none 0 0) := (blk_cell hr1 5).trans rfl; have hf0 := blk_frozen hr1 0; have hf1 := blk_frozen hr1 1; have hf2 := blk_frozen hr1 2; have hf3 := blk_frozen hr1 3; have hf4 := blk_frozen hr1 4; have hf5 := blk_frozen hr1 5
    clear hI1 hK1 hr1 ht1
    go_wp2_with fail
    refine ret_gen fun W hW => ?_
    have hRes := (congrArg (fun x : World => x.heap[w.heap.size]?) hW).trans (blk_six HR1.out _ _ _ _ _ _)
    have hRW : Rests w0 w W g b (next b t.fin) := by rw [hW]; exact (by repeat (first | (with_reducible exact HI1.out) | (with_reducible apply Rests.drewN) | (with_reducible apply Rests.drew) | (with_reducible apply Rests.alloc) | (with_reducible refine Rests.put ?_ (by first | (simp; done) | (simp; omega)) _)))
    have hq0 := (blk_cell hRes 0).trans rfl; have hq1 := (blk_cell hRes 1).trans rfl; have hq2 := (blk_cell hRes 2).trans rfl; have hq3 := (blk_cell hRes 3).trans rfl; have hq4 := (blk_cell hRes 4).trans rfl; have hq5 := (blk_cell hRes 5).trans rfl
    clear hW
    refine bodyPost_ret (v := .agg #[.string (mk wName), .int .i64 ((0 : Nat) : Int), .string (mk t.name), .int .i64 (t.pos : Int), .int .i64 ((0 : Nat) : Int), .slice none 0 0]) (by simp [results, Tryz.results119, go_sem, hq0, hq1, hq2, hq3, hq4, hq5]; try rfl) rfl ⟨⟨_, _, _, _, _, _, _, _, rfl, rfl⟩, hRW⟩

set_option maxHeartbeats 4000000 in
set_option maxRecDepth 100000 in
theorem operand_paren (E : Nat → Addr) (w0 : World) (b : Bs) (f : Nat) (hE : Env E w0) (hlen : b.length ≤ 1024) (ih : ExprAt E w0 b f) (g : Nat) (w : World) (t : Tok) (r : Res Ex) (hI : Rests w0 w w g b t)
    (hop : t.op = [40]) (hr : operand b (f + 1) t = r) (hro : r ≠ .out) :
    Calls Tryz.prog 119 #[.pointer (some ⟨g, 0, none⟩)] w (PPost E w0 w g b r) := by
  have HI := Aside0.mk hI
  have HE := Aside0.mk hE
  have hglt := hI.lt
  obtain ⟨A, c, hg, hge, hc, hC⟩ := hI.rd
  have hk1 : w.cell? ⟨g, 1, none⟩ = some (.string (mk t.op)) := (blk_cell hg 1).trans rfl
  have hk2 : w.cell? ⟨g, 2, none⟩ = some (.int .i64 (t.pos : Int)) := (blk_cell hg 2).trans rfl
  have hk3 : w.cell? ⟨g, 3, none⟩ = some (.int .i64 (t.fin : Int)) := (blk_cell hg 3).trans rfl
  have hk4 : w.cell? ⟨g, 4, none⟩ = some (.int .i64 (t.num : Int)) := (blk_cell hg 4).trans rfl
  have hk5 : w.cell? ⟨g, 5, none⟩ = some (.bool t.over) := (blk_cell hg 5).trans rfl
  have hk6 : w.cell? ⟨g, 6, none⟩ = some (.string (mk t.name)) := (blk_cell hg 6).trans rfl
  clear hg hC hE hI
  rw [operand, if_neg (by rw [hop]; decide), if_neg (by rw [hop]; decide), if_neg (by rw [hop]; decide), if_neg (by rw [hop]; decide), if_pos hop] at hr
  have HR := Aside0.mk hr
  clear hr
  · skip
    have ho0 := op_no (op := t.op) (v := [43]) (by rw [hop]; decide)
    have ho1 := op_no (op := t.op) (v := [45]) (by rw [hop]; decide)
    have ho2 := op_no (op := t.op) (v := [33]) (by rw [hop]; decide)
    have ho3 := op_no (op := t.op) (v := [126]) (by rw [hop]; decide)
    have ho4 := op_no (op := t.op) (v := [110, 117, 109]) (by rw [hop]; decide)
    have ho5 := op_no (op := t.op) (v := [110, 97, 109, 101]) (by rw [hop]; decide)
    have ho6 := op_yes (op := t.op) (v := [40]) (by exact hop)
    clear hop
    go_enter Tryz.func119, Tryz.ntmps119
    go_wp2_with fail
    with_reducible refine (pass_rests b t g w0 w _ (by repeat (first | (with_reducible exact HI.out) | (with_reducible apply Rests.drewN) | (with_reducible apply Rests.drew) | (with_reducible apply Rests.alloc) | (with_reducible refine Rests.put ?_ (by first | (simp; done) | (simp; omega)) _))) hlen).mono ?_
    rintro e w1 ⟨rfl, hI1, hK1⟩
    have hr1 : w1.heap[w.heap.size]? = _ := hK1.blk (new0 w _ _ 0) (by omega) (by simp)
    have ht1 : w1.heap[w.heap.size + 1]? = _ := hK1.blk (new1 w _ _ 0) (by omega) (by simp)
    have HI1 := Aside0.mk hI1
    have HR1 := Aside0.mk hr1
    have HT1 := Aside0.mk ht1
    have hltr : w.heap.size + 1 < w1.heap.size := blk_lt ht1
    clear hI1 hK1 hr1 ht1
    have HS := Aside0.mk HI1.out.self
    have IH := Aside0.mk ih
    clear ih
    cases hx : expr b f (next b t.fin) with
    | out => exact absurd HR.out (by rw [hx]; exact fun h => hro h.symm)
    | err c p =>
      obtain rfl : r = .err c p := by rw [← HR.out, hx]; rfl
      have HCl := Aside0.mk (fun W h1 => IH.out g W _ _ h1 hx (by simp))
      clear hx HR hro IH
      go_wp2_with fail
      with_reducible refine (HCl.out _ HS.out).mono ?_
      rintro e w2 ⟨v, rfl, hv, hb⟩
      go_wp2_with fail
      exact ⟨rfl, v, rfl, hv, hb⟩
    | ok e1 t1 =>
      have HR2 : Aside0 ((if t1.op = [41] then .ok e1 (next b t1.fin) else bar t1) = r) := ⟨by rw [← HR.out, hx]; rfl⟩
      have HCl := Aside0.mk (fun W h1 => IH.out g W _ _ h1 hx (by simp))
      clear hx HR IH
      go_wp2_with fail
      with_reducible refine (HCl.out _ HS.out).mono ?_
      rintro e w2 ⟨⟨s0, n1, s2, n3, n4, A2, n2, c2, rfl, hTr⟩, hI2⟩
      have hK2 := hI2.keep
      have hr2 : w2.heap[w.heap.size]? = _ := hK2.blk HR1.out (by omega) (by simp)
      have ho1 := hI2.rd.op
      have hlt2 := blk_lt hr2
      have hg2 : g < w2.heap.size := by omega
      obtain ⟨gc, hgc⟩ := hI2.rd.blk
      have HG2 := Aside0.mk (blk_alloc hgc (.cells #[.string s0, .int .i64 n1, .string s2, .int .i64 n3, .int .i64 n4, .slice A2 n2 c2] 63))
      have HRr2 := Aside0.mk hr2
      have HTr := Aside0.mk hTr
      have HI2 := Aside0.mk (Rests.trans HI1.out hI2)
      clear hTr hI2 hK2 hr2 hgc
      by_cases hp : t1.op = [41]
      · obtain rfl : r = .ok e1 (next b t1.fin) := by rw [← HR2.out, if_pos hp]
        have hob := op_yes hp
        clear HR2 hro hp
        go_wp2_with fail
        with_reducible refine (pass_rests b t1 g w0 w _ (by repeat (first | (with_reducible exact HI2.out) | (with_reducible apply Rests.drewN) | (with_reducible apply Rests.drew) | (with_reducible apply Rests.alloc) | (with_reducible refine Rests.put ?_ (by first | (simp; done) | (simp; omega)) _))) hlen).mono ?_
        rintro e w3 ⟨rfl, hI3, hK3⟩
        have hr3 : w3.heap[w.heap.size]? = _ := hK3.blk (blk_alloc HRr2.out _) (by omega) (by simp)
        have hb3 : w3.heap[w2.heap.size]? = _ := hK3.blk (heap_new rfl _) (by omega) (by simp)
        have hd0 : w3.cell? ⟨w.heap.size, 0, none⟩ = some (.string ⟨#[]⟩) := (blk_cell hr3 0).trans rfl; have hd1 : w3.cell? ⟨w.heap.size, 1, none⟩ = some (.int .i64 0) := (blk_cell hr3 1).trans rfl; have hd2 : w3.cell? ⟨w.heap.size, 2, none⟩ = some (.string ⟨#[]⟩) := (blk_cell hr3 2).trans rfl; have hd3 : w3.cell? ⟨w.heap.size, 3, none⟩ = some (.int .i64 0) := (blk_cell hr3 3).trans rfl; have hd4 : w3.cell? ⟨w.heap.size, 4, none⟩ = some (.int .i64 0) := (blk_cell hr3 4).trans rfl; have hd5 : w3.cell? ⟨w.heap.size, 5, none⟩ = some (.slice none 0 0) := (blk_cell hr3 5).trans rfl; have hf0 := blk_frozen hr3 0; have hf1 := blk_frozen hr3 1; have hf2 := blk_frozen hr3 2; have hf3 := blk_frozen hr3 3; have hf4 := blk_frozen hr3 4; have hf5 := blk_frozen hr3 5
        have he0 := (blk_cell hb3 0).trans rfl; have he1 := (blk_cell hb3 1).trans rfl; have he2 := (blk_cell hb3 2).trans rfl; have he3 := (blk_cell hb3 3).trans rfl; have he4 := (blk_cell hb3 4).trans rfl; have he5 := (blk_cell hb3 5).trans rfl
        have HR3 := Aside0.mk hr3
        have HI3 := Aside0.mk hI3
        have HT3 := Aside0.mk (Tr.kept (Tr.below HTr.out (below_alloc (Below.refl _ _) _)) hK3 HG2.out (by simp))
        clear hr3 hb3 hI3 hK3
        go_wp2_with fail
        refine ret_gen fun W hW => ?_
        have hRes := (congrArg (fun x : World => x.heap[w.heap.size]?) hW).trans (blk_six HR3.out _ _ _ _ _ _)
        have hRW : Rests w0 w W g b (next b t1.fin) := by rw [hW]; exact (by repeat (first | (with_reducible exact HI3.out) | (with_reducible apply Rests.drewN) | (with_reducible apply Rests.drew) | (with_reducible apply Rests.alloc) | (with_reducible refine Rests.put ?_ (by first | (simp; done) | (simp; omega)) _)))
        have hTW := Tr.under (w' := W) (r := w.heap.size) HT3.out (by rw [hW]; repeat (first | (with_reducible exact KeepBut.refl _ _ _) | (with_reducible apply KeepBut.set_) | (with_reducible apply keep_alloc))) (by omega)
        have hq0 := (blk_cell hRes 0).trans rfl; have hq1 := (blk_cell hRes 1).trans rfl; have hq2 := (blk_cell hRes 2).trans rfl; have hq3 := (blk_cell hRes 3).trans rfl; have hq4 := (blk_cell hRes 4).trans rfl; have hq5 := (blk_cell hRes 5).trans rfl
        clear hW
        refine bodyPost_ret (v := .agg #[.string s0, .int .i64 n1, .string s2, .int .i64 n3, .int .i64 n4, .slice A2 n2 c2]) (by simp [results, Tryz.results119, go_sem, hq0, hq1, hq2, hq3, hq4, hq5]; try rfl) rfl ⟨⟨_, _, _, _, _, _, _, _, rfl, Tr.lo (by omega) _ _ hTW⟩, hRW⟩
      · obtain ⟨c, p, hcp⟩ := bar_err t1
        obtain rfl : r = .err c p := by rw [← HR2.out, if_neg hp, hcp]
        have HC := Aside0.mk hcp
        have hob := op_no hp
        clear HR2 hro hp hcp
        go_wp2_with fail
        with_reducible refine (bar_rests E w0 b g w _ t1 _ _ HC.out HE.out (by repeat (first | (with_reducible exact HI2.out) | (with_reducible apply Rests.drewN) | (with_reducible apply Rests.drew) | (with_reducible apply Rests.alloc) | (with_reducible refine Rests.put ?_ (by first | (simp; done) | (simp; omega)) _)))).mono ?_
        rintro e w3 ⟨v, rfl, hv, hb⟩
        go_wp2_with fail
        exact ⟨rfl, v, rfl, hv, hb⟩

set_option maxHeartbeats 4000000 in
set_option maxRecDepth 100000 in
theorem operand_other (E : Nat → Addr) (w0 : World) (b : Bs) (f : Nat) (hE : Env E w0) (hlen : b.length ≤ 1024) (g : Nat) (w : World) (t : Tok) (r : Res Ex) (hI : Rests w0 w w g b t)
    (hno : t.op ≠ [43] ∧ t.op ≠ [45] ∧ t.op ≠ [33] ∧ t.op ≠ [126] ∧ t.op ≠ wNum ∧ t.op ≠ wName ∧ t.op ≠ [40]) (hr : operand b (f + 1) t = r) (hro : r ≠ .out) :
    Calls Tryz.prog 119 #[.pointer (some ⟨g, 0, none⟩)] w (PPost E w0 w g b r) := by
  have HI := Aside0.mk hI
  have HE := Aside0.mk hE
  have hglt := hI.lt
  obtain ⟨A, c, hg, hge, hc, hC⟩ := hI.rd
  have hk1 : w.cell? ⟨g, 1, none⟩ = some (.string (mk t.op)) := (blk_cell hg 1).trans rfl
  have hk2 : w.cell? ⟨g, 2, none⟩ = some (.int .i64 (t.pos : Int)) := (blk_cell hg 2).trans rfl
  have hk3 : w.cell? ⟨g, 3, none⟩ = some (.int .i64 (t.fin : Int)) := (blk_cell hg 3).trans rfl
  have hk4 : w.cell? ⟨g, 4, none⟩ = some (.int .i64 (t.num : Int)) := (blk_cell hg 4).trans rfl
  have hk5 : w.cell? ⟨g, 5, none⟩ = some (.bool t.over) := (blk_cell hg 5).trans rfl
  have hk6 : w.cell? ⟨g, 6, none⟩ = some (.string (mk t.name)) := (blk_cell hg 6).trans rfl
  clear hg hC hE hI
  rw [operand, if_neg (fun h => h.elim hno.1 hno.2.1), if_neg (fun h => h.elim hno.2.2.1 hno.2.2.2.1), if_neg hno.2.2.2.2.1, if_neg hno.2.2.2.2.2.1, if_neg hno.2.2.2.2.2.2] at hr
  obtain ⟨c, p, hcp⟩ := bar_err t
  obtain rfl : r = .err c p := by rw [← hr, hcp]
  have HC := Aside0.mk hcp
  have ho0 := op_no (op := t.op) (v := [43]) hno.1
  have ho1 := op_no (op := t.op) (v := [45]) hno.2.1
  have ho2 := op_no (op := t.op) (v := [33]) hno.2.2.1
  have ho3 := op_no (op := t.op) (v := [126]) hno.2.2.2.1
  have ho4 := op_no (op := t.op) (v := [110, 117, 109]) hno.2.2.2.2.1
  have ho5 := op_no (op := t.op) (v := [110, 97, 109, 101]) hno.2.2.2.2.2.1
  have ho6 := op_no (op := t.op) (v := [40]) hno.2.2.2.2.2.2
  clear hno hr hcp hro
  go_enter Tryz.func119, Tryz.ntmps119
  go_wp2_with fail
  with_reducible refine (bar_rests E w0 b g w _ t _ _ HC.out HE.out (by repeat (first | (with_reducible exact HI.out) | (with_reducible apply Rests.drewN) | (with_reducible apply Rests.drew) | (with_reducible apply Rests.alloc) | (with_reducible refine Rests.put ?_ (by first | (simp; done) | (simp; omega)) _)))).mono ?_
  rintro e w3 ⟨v, rfl, hv, hb⟩
  go_wp2_with fail
  exact ⟨rfl, v, rfl, hv, hb⟩

theorem operand_calls (E : Nat → Addr) (w0 : World) (b : Bs) (f : Nat) (hE : Env E w0) (hlen : b.length ≤ 1024) (ihO : OperandAt E w0 b f) (ihE : ExprAt E w0 b f) : OperandAt E w0 b (f + 1) := by
  intro g w t r hI hr hro
  by_cases h1 : t.op = [43] ∨ t.op = [45]
  · exact operand_sign E w0 b f hE hlen ihO g w t r hI h1 hr hro
  by_cases h2 : t.op = [33] ∨ t.op = [126]
  · exact operand_not E w0 b f hE hlen ihO g w t r hI h2 hr hro
  by_cases h3 : t.op = wNum
  · exact operand_num E w0 b f hE hlen g w t r hI h3 hr hro
  by_cases h4 : t.op = wName
  · exact operand_name E w0 b f hE hlen g w t r hI h4 hr hro
  by_cases h5 : t.op = [40]
  · exact operand_paren E w0 b f hE hlen ihE g w t r hI h5 hr hro
  exact operand_other E w0 b f hE hlen g w t r hI ⟨fun h => h1 (.inl h), fun h => h1 (.inr h), fun h => h2 (.inl h), fun h => h2 (.inr h), h3, h4, h5⟩ hr hro
theorem operand_zero (E : Nat → Addr) (w0 : World) (b : Bs) : OperandAt E w0 b 0 := by
  intro g w t r hI hr hro
  exact absurd hr.symm (by rw [operand]; exact hro)
end Go.Proofs.YtjllmamblkejjaaGreatDoor
end

/- What (*arith.reader).cond comes to. No conditions. -/
section
set_option linter.unusedVariables false
set_option linter.unusedSimpArgs false
namespace Go.Proofs.YtjllmamblkejjaaGreatDoor
open Go.RowKit Go.Proofs.YtjllmamblkejjaaGreatDoorW.PrintWords Go.Proofs.YtjllmamblkejjaaGreatDoorW.PrintLast Go.Proofs.YtjllmamblkejjaaGreatDoorW.PrintMore
open PQA Sp

set_option maxHeartbeats 4000000 in
set_option maxRecDepth 100000 in
theorem cond_calls_ (E : Nat → Addr) (w0 : World) (b : Bs) (f : Nat) (hE : Env E w0) (hlen : b.length ≤ 1024) (ihB : BinAt E w0 b f) (ihE : ExprAt E w0 b f) (ihC : CondAt E w0 b f) (g : Nat) (w : World) (t : Tok) (r : Res Ex) (hI : Rests w0 w w g b t)
    (hr : Sp.cond b (f + 1) t = r) (hro : r ≠ .out) :
    Calls Tryz.prog 64 #[.pointer (some ⟨g, 0, none⟩)] w (PPost E w0 w g b r) := by
  have HI := Aside0.mk hI
  have HE := Aside0.mk hE
  have hglt := hI.lt
  obtain ⟨A, c, hg, hge, hc, hC⟩ := hI.rd
  have hk1 : w.cell? ⟨g, 1, none⟩ = some (.string (mk t.op)) := (blk_cell hg 1).trans rfl
  have hk2 : w.cell? ⟨g, 2, none⟩ = some (.int .i64 (t.pos : Int)) := (blk_cell hg 2).trans rfl
  have hk3 : w.cell? ⟨g, 3, none⟩ = some (.int .i64 (t.fin : Int)) := (blk_cell hg 3).trans rfl
  have hk4 : w.cell? ⟨g, 4, none⟩ = some (.int .i64 (t.num : Int)) := (blk_cell hg 4).trans rfl
  have hk5 : w.cell? ⟨g, 5, none⟩ = some (.bool t.over) := (blk_cell hg 5).trans rfl
  have hk6 : w.cell? ⟨g, 6, none⟩ = some (.string (mk t.name)) := (blk_cell hg 6).trans rfl
  clear hg hC hE hI
  have HR := Aside0.mk (show ((bin b f 0 t).bind fun e t1 => if t1.op = [63] then (expr b f (next b t1.fin)).bind fun a t2 => if t2.op = [58] then (Sp.cond b f (next b t2.fin)).bind fun c t3 => .ok (.tern t1.pos e a c) t3 else bar t2 else .ok e t1) = r from by rw [← hr, Sp.cond])
  have IHB := Aside0.mk ihB
  have IHE := Aside0.mk ihE
  have IHC := Aside0.mk ihC
  have HS := Aside0.mk (Rests.self (HI.out.alloc (.cells #[.string ⟨#[]⟩, .int .i64 0, .string ⟨#[]⟩, .int .i64 0, .int .i64 0, .slice none 0 0] 63)))
  clear ihB ihE ihC hr
  cases hx : bin b f 0 t with
  | out => exact absurd HR.out (by rw [hx]; exact fun h => hro h.symm)
  | err c p =>
    obtain rfl : r = .err c p := by rw [← HR.out, hx]; rfl
    have HCl := Aside0.mk (fun W h1 => IHB.out g W _ _ 0 0 rfl (by omega) h1 hx (by simp))
    clear hx hro HR
    go_enter Tryz.func64, Tryz.ntmps64
    go_wp2_with fail
    with_reducible refine (HCl.out _ HS.out).mono ?_
    rintro e w2 ⟨v, rfl, hv, hb⟩
    go_wp2_with fail
    exact ⟨rfl, v, rfl, hv, hb⟩
  | ok e1 t1 =>
    have HCl := Aside0.mk (fun W h1 => IHB.out g W _ _ 0 0 rfl (by omega) h1 hx (by simp))
    replace HR : Aside0 ((if t1.op = [63] then (expr b f (next b t1.fin)).bind fun a t2 => if t2.op = [58] then (Sp.cond b f (next b t2.fin)).bind fun c t3 => .ok (.tern t1.pos e1 a c) t3 else bar t2 else .ok e1 t1) = r) := ⟨by rw [← HR.out, hx]; rfl⟩
    clear hx
    go_enter Tryz.func64, Tryz.ntmps64
    go_wp2_with fail
    with_reducible refine (HCl.out _ HS.out).mono ?_
    rintro e w2 ⟨⟨s10, n11, s12, n13, n14, A1, l1, c1, rfl, hTr⟩, hI2⟩
    have hK2 := hI2.keep
    have hr2 : w2.heap[w.heap.size]? = _ := hK2.blk (heap_new rfl _) (by omega) (by simp)
    have ho1 := hI2.rd.op
    have hp1 := hI2.rd.pos
    have hlt2 := blk_lt hr2
    have hg2 : g < w2.heap.size := by omega
    obtain ⟨gc, hgc⟩ := hI2.rd.blk
    have hd0 : w2.cell? ⟨w.heap.size, 0, none⟩ = some (.string ⟨#[]⟩) := (blk_cell hr2 0).trans rfl; have hd1 : w2.cell? ⟨w.heap.size, 1, none⟩ = some (.int .i64 0) := (blk_cell hr2 1).trans rfl; have hd2 : w2.cell? ⟨w.heap.size, 2, none⟩ = some (.string ⟨#[]⟩) := (blk_cell hr2 2).trans rfl; have hd3 : w2.cell? ⟨w.heap.size, 3, none⟩ = some (.int .i64 0) := (blk_cell hr2 3).trans rfl; have hd4 : w2.cell? ⟨w.heap.size, 4, none⟩ = some (.int .i64 0) := (blk_cell hr2 4).trans rfl; have hd5 : w2.cell? ⟨w.heap.size, 5, none⟩ = some (.slice none 0 0) := (blk_cell hr2 5).trans rfl; have hf0 := blk_frozen hr2 0; have hf1 := blk_frozen hr2 1; have hf2 := blk_frozen hr2 2; have hf3 := blk_frozen hr2 3; have hf4 := blk_frozen hr2 4; have hf5 := blk_frozen hr2 5
    have HG2 := Aside0.mk hgc
    have HR2 := Aside0.mk hr2
    have HTr := Aside0.mk hTr
    have HI2 := Aside0.mk (Rests.trans (HI.out.alloc _) hI2)
    clear hTr hI2 hK2 hr2 hgc
    by_cases hp : t1.op = [63]
    · skip
      have HY2 : Aside0 (((expr b f (next b t1.fin)).bind fun a t2 => if t2.op = [58] then (Sp.cond b f (next b t2.fin)).bind fun c t3 => .ok (.tern t1.pos e1 a c) t3 else bar t2) = r) := ⟨by rw [← HR.out, if_pos hp]⟩
      have hob := op_yes hp
      clear hp HR
      go_wp2_with fail
      with_reducible refine (pass_rests b t1 g w0 w _ (by repeat (first | (with_reducible exact HI2.out) | (with_reducible apply Rests.drewN) | (with_reducible apply Rests.drew) | (with_reducible apply Rests.alloc) | (with_reducible refine Rests.put ?_ (by first | (simp; done) | (simp; omega)) _))) hlen).mono ?_
      rintro e w4 ⟨rfl, hI4, hK4⟩
      have hr4 : w4.heap[w.heap.size]? = _ := hK4.blk (blk_alloc (blk_alloc HR2.out _) _) (by omega) (by simp)
      have hbe4 : w4.heap[w2.heap.size]? = _ := hK4.blk (new0 w2 _ _ 0) (by omega) (by simp)
      have hbo4 : w4.heap[w2.heap.size + 1]? = _ := hK4.blk (new1 w2 _ _ 0) (by omega) (by simp)
      have HR4 := Aside0.mk hr4
      have HBE4 := Aside0.mk hbe4
      have HBO4 := Aside0.mk hbo4
      have hlt4 := blk_lt hbo4
      have HI4 := Aside0.mk hI4
      have HS4 := Aside0.mk hI4.self
      have HKA4 := Aside0.mk (Kept.step (Kept.alloc (Kept.alloc (Kept.refl w2 (w.alloc (.cells #[.string ⟨#[]⟩, .int .i64 0, .string ⟨#[]⟩, .int .i64 0, .int .i64 0, .slice none 0 0] 63)).heap.size g) _) _) hK4)
      clear hr4 hbe4 hbo4 hI4 hK4 hd0 hf0 hd1 hf1 hd2 hf2 hd3 hf3 hd4 hf4 hd5 hf5 ho1 hp1
      cases hx2 : expr b f (next b t1.fin) with
      | out => exact absurd HY2.out (by rw [hx2]; exact fun h => hro h.symm)
      | err c p =>
        obtain rfl : r = .err c p := by rw [← HY2.out, hx2]; rfl
        have HCl := Aside0.mk (fun W h1 => IHE.out g W _ _ h1 hx2 (by simp))
        clear hx2 hro HY2
        go_wp2_with fail
        with_reducible refine (HCl.out _ HS4.out).mono ?_
        rintro e w5 ⟨v, rfl, hv, hb⟩
        go_wp2_with fail
        exact ⟨rfl, v, rfl, hv, hb⟩
      | ok e2 t2 =>
        have HCl := Aside0.mk (fun W h1 => IHE.out g W _ _ h1 hx2 (by simp))
        have HR3 : Aside0 ((if t2.op = [58] then (Sp.cond b f (next b t2.fin)).bind fun c t3 => .ok (.tern t1.pos e1 e2 c) t3 else bar t2) = r) := ⟨by rw [← HY2.out, hx2]; rfl⟩
        clear hx2 HY2
        go_wp2_with fail
        with_reducible refine (HCl.out _ HS4.out).mono ?_
        rintro e w5 ⟨⟨s20, n21, s22, n23, n24, A2, l2, c2, rfl, hTr⟩, hI2⟩
        have hK5 := hI2.keep
        have hr5 : w5.heap[w.heap.size]? = _ := hK5.blk HR4.out (by omega) (by simp)
        have hbe5 : w5.heap[w2.heap.size]? = _ := hK5.blk HBE4.out (by omega) (by simp)
        have hbo5 : w5.heap[w2.heap.size + 1]? = _ := hK5.blk HBO4.out (by omega) (by simp)
        have ho5 := hI2.rd.op
        have hlt5 := blk_lt hbo5
        obtain ⟨gc, hgc⟩ := hI2.rd.blk
        have HG5 := Aside0.mk hgc
        have HR5 := Aside0.mk hr5
        have HBE5 := Aside0.mk hbe5
        have HBO5 := Aside0.mk hbo5
        have HTa := Aside0.mk hTr
        have HKA5 := Aside0.mk (HKA4.out.step hK5)
        have HI5 := Aside0.mk (Rests.trans HI4.out hI2)
        have h45 := hI2.keep.1
        have hg5 : g < w5.heap.size := by omega
        clear hTr hI2 hK5 hr5 hbe5 hbo5 hgc
        by_cases hp : t2.op = [58]
        · obtain HR6 : Aside0 (((Sp.cond b f (next b t2.fin)).bind fun c t3 => .ok (.tern t1.pos e1 e2 c) t3) = r) := ⟨by rw [← HR3.out, if_pos hp]⟩
          have hob := op_yes hp
          clear HR3 hp
          go_wp2_with fail
          with_reducible refine (pass_rests b t2 g w0 w _ (by repeat (first | (with_reducible exact HI5.out) | (with_reducible apply Rests.drewN) | (with_reducible apply Rests.drew) | (with_reducible apply Rests.alloc) | (with_reducible refine Rests.put ?_ (by first | (simp; done) | (simp; omega)) _))) hlen).mono ?_
          rintro e w6 ⟨rfl, hI6, hK6⟩
          have hr6 : w6.heap[w.heap.size]? = _ := hK6.blk (blk_alloc HR5.out _) (by omega) (by simp)
          have hbe6 : w6.heap[w2.heap.size]? = _ := hK6.blk (blk_alloc HBE5.out _) (by omega) (by simp)
          have hbo6 : w6.heap[w2.heap.size + 1]? = _ := hK6.blk (blk_alloc HBO5.out _) (by omega) (by simp)
          have hba6 : w6.heap[w5.heap.size]? = _ := hK6.blk (heap_new rfl _) (by omega) (by simp)
          have he0 := (blk_cell hbe6 0).trans rfl; have he1 := (blk_cell hbe6 1).trans rfl; have he2 := (blk_cell hbe6 2).trans rfl; have he3 := (blk_cell hbe6 3).trans rfl; have he4 := (blk_cell hbe6 4).trans rfl; have he5 := (blk_cell hbe6 5).trans rfl
          have ha0 := (blk_cell hba6 0).trans rfl; have ha1 := (blk_cell hba6 1).trans rfl; have ha2 := (blk_cell hba6 2).trans rfl; have ha3 := (blk_cell hba6 3).trans rfl; have ha4 := (blk_cell hba6 4).trans rfl; have ha5 := (blk_cell hba6 5).trans rfl
          have HR6r := Aside0.mk hr6
          have HBE6 := Aside0.mk hbe6
          have HBO6 := Aside0.mk hbo6
          have HBA6 := Aside0.mk hba6
          have hlt6 := blk_lt hba6
          have HI6 := Aside0.mk hI6
          have HS6 := Aside0.mk hI6.drew.self
          have HKA6 := Aside0.mk (Kept.step (Kept.alloc HKA5.out _) hK6)
          have HKB6 := Aside0.mk (Kept.step (Kept.alloc (Kept.refl w5 w4.heap.size g) _) hK6)
          clear hr6 hbe6 hbo6 hba6 hI6 hK6 ho5
          cases hx3 : Sp.cond b f (next b t2.fin) with
          | out => exact absurd HR6.out (by rw [hx3]; exact fun h => hro h.symm)
          | err c p =>
            obtain rfl : r = .err c p := by rw [← HR6.out, hx3]; rfl
            have HCl := Aside0.mk (fun W h1 => IHC.out g W _ _ h1 hx3 (by simp))
            clear hx3 hro HR6
            go_wp2_with fail
            go_region_dies
            all_goals (go_at_call 64; ((with_reducible refine (HCl.out _ HS6.out).mono ?_); rintro e w7 ⟨v, rfl, hv, hb⟩; exact ⟨rfl, v, rfl, hv, hb⟩))
          | ok e3 t3 =>
            obtain rfl : r = .ok (.tern t1.pos e1 e2 e3) t3 := by rw [← HR6.out, hx3]; rfl
            have HCl := Aside0.mk (fun W h1 => IHC.out g W _ _ h1 hx3 (by simp))
            clear hx3 hro HR6
            go_wp2_with fail
            go_region_held3 (fun w' => w'.cell? ⟨w2.heap.size, 0, none⟩ = some (.string s10) ∧ w'.cell? ⟨w2.heap.size, 1, none⟩ = some (.int .i64 n11) ∧ w'.cell? ⟨w2.heap.size, 2, none⟩ = some (.string s12) ∧ w'.cell? ⟨w2.heap.size, 3, none⟩ = some (.int .i64 n13) ∧ w'.cell? ⟨w2.heap.size, 4, none⟩ = some (.int .i64 n14) ∧ w'.cell? ⟨w2.heap.size, 5, none⟩ = some (.slice A1 l1 c1) ∧ w'.cell? ⟨w5.heap.size, 0, none⟩ = some (.string s20) ∧ w'.cell? ⟨w5.heap.size, 1, none⟩ = some (.int .i64 n21) ∧ w'.cell? ⟨w5.heap.size, 2, none⟩ = some (.string s22) ∧ w'.cell? ⟨w5.heap.size, 3, none⟩ = some (.int .i64 n23) ∧ w'.cell? ⟨w5.heap.size, 4, none⟩ = some (.int .i64 n24) ∧ w'.cell? ⟨w5.heap.size, 5, none⟩ = some (.slice A2 l2 c2))
              (first | (with_reducible exact HX.out) | go_keep)
              ((go_at_call 64; ((with_reducible refine (HCl.out _ HS6.out).mono ?_); rintro e w7 ⟨⟨s30, n31, s32, n33, n34, A3, l3, c3, rfl, hTr⟩, hI2⟩; have hK7 := KeepBut.drewL hI2.keep; have hbe7 : w7.heap[w2.heap.size]? = _ := hK7.blk HBE6.out (by omega) (by simp); have hba7 : w7.heap[w5.heap.size]? = _ := hK7.blk HBA6.out (by omega) (by simp); have hbo7 : w7.heap[w2.heap.size + 1]? = _ := hK7.blk HBO6.out (by omega) (by simp); have hr7 : w7.heap[w.heap.size]? = _ := hK7.blk HR6r.out (by omega) (by simp); have xe0 : w7.cell? ⟨w2.heap.size, 0, none⟩ = some (.string s10) := (blk_cell hbe7 0).trans rfl; have xe1 : w7.cell? ⟨w2.heap.size, 1, none⟩ = some (.int .i64 n11) := (blk_cell hbe7 1).trans rfl; have xe2 : w7.cell? ⟨w2.heap.size, 2, none⟩ = some (.string s12) := (blk_cell hbe7 2).trans rfl; have xe3 : w7.cell? ⟨w2.heap.size, 3, none⟩ = some (.int .i64 n13) := (blk_cell hbe7 3).trans rfl; have xe4 : w7.cell? ⟨w2.heap.size, 4, none⟩ = some (.int .i64 n14) := (blk_cell hbe7 4).trans rfl; have xe5 : w7.cell? ⟨w2.heap.size, 5, none⟩ = some (.slice A1 l1 c1) := (blk_cell hbe7 5).trans rfl; have xa0 : w7.cell? ⟨w5.heap.size, 0, none⟩ = some (.string s20) := (blk_cell hba7 0).trans rfl; have xa1 : w7.cell? ⟨w5.heap.size, 1, none⟩ = some (.int .i64 n21) := (blk_cell hba7 1).trans rfl; have xa2 : w7.cell? ⟨w5.heap.size, 2, none⟩ = some (.string s22) := (blk_cell hba7 2).trans rfl; have xa3 : w7.cell? ⟨w5.heap.size, 3, none⟩ = some (.int .i64 n23) := (blk_cell hba7 3).trans rfl; have xa4 : w7.cell? ⟨w5.heap.size, 4, none⟩ = some (.int .i64 n24) := (blk_cell hba7 4).trans rfl; have xa5 : w7.cell? ⟨w5.heap.size, 5, none⟩ = some (.slice A2 l2 c2) := (blk_cell hba7 5).trans rfl; have xo0 : w7.cell? ⟨w2.heap.size + 1, 0, none⟩ = some (.string ⟨#[63]⟩) := (blk_cell hbo7 0).trans rfl; have xo1 : w7.cell? ⟨w2.heap.size + 1, 1, none⟩ = some (.int .i64 0) := (blk_cell hbo7 1).trans rfl; have xo2 : w7.cell? ⟨w2.heap.size + 1, 2, none⟩ = some (.string ⟨#[]⟩) := (blk_cell hbo7 2).trans rfl; have xo3 : w7.cell? ⟨w2.heap.size + 1, 3, none⟩ = some (.int .i64 (t1.pos : Int)) := (blk_cell hbo7 3).trans rfl; have xo4 : w7.cell? ⟨w2.heap.size + 1, 4, none⟩ = some (.int .i64 0) := (blk_cell hbo7 4).trans rfl; have xo5 : w7.cell? ⟨w2.heap.size + 1, 5, none⟩ = some (.slice none 0 0) := (blk_cell hbo7 5).trans rfl; have hd0 : w7.cell? ⟨w.heap.size, 0, none⟩ = some (.string ⟨#[]⟩) := (blk_cell hr7 0).trans rfl; have hd1 : w7.cell? ⟨w.heap.size, 1, none⟩ = some (.int .i64 0) := (blk_cell hr7 1).trans rfl; have hd2 : w7.cell? ⟨w.heap.size, 2, none⟩ = some (.string ⟨#[]⟩) := (blk_cell hr7 2).trans rfl; have hd3 : w7.cell? ⟨w.heap.size, 3, none⟩ = some (.int .i64 0) := (blk_cell hr7 3).trans rfl; have hd4 : w7.cell? ⟨w.heap.size, 4, none⟩ = some (.int .i64 0) := (blk_cell hr7 4).trans rfl; have hd5 : w7.cell? ⟨w.heap.size, 5, none⟩ = some (.slice none 0 0) := (blk_cell hr7 5).trans rfl; have hf0 := blk_frozen hr7 0; have hf1 := blk_frozen hr7 1; have hf2 := blk_frozen hr7 2; have hf3 := blk_frozen hr7 3; have hf4 := blk_frozen hr7 4; have hf5 := blk_frozen hr7 5; have HX := Aside0.mk (And.intro xe0 (And.intro xe1 (And.intro xe2 (And.intro xe3 (And.intro xe4 (And.intro xe5 (And.intro xa0 (And.intro xa1 (And.intro xa2 (And.intro xa3 (And.intro xa4 xa5))))))))))); have hf5o := blk_frozen hbo7 5; have HR7 := Aside0.mk hr7; have HBO7 := Aside0.mk hbo7; have hlt7 := blk_lt hba7; have hltr7 := blk_lt hr7; have hlto7 := blk_lt hbo7; have hlte7 := blk_lt hbe7; have hne1 : ¬ w5.heap.size = w2.heap.size + 1 := (by omega); have hne2 : ¬ w2.heap.size + 1 = w5.heap.size := (by omega); have HTc := Aside0.mk hTr; have hGD := hI2.rd.blk; have HKA7 := Aside0.mk (HKA6.out.step hK7); have HKB7 := Aside0.mk (HKB6.out.step hK7); have HKC7 := Aside0.mk (Kept.refl w7 w6.drew.heap.size g); have HI7 := Aside0.mk (Rests.trans HI6.out.drew hI2); clear hTr hI2 hK7 hr7 hbo7 hba7 hbe7)))
            rename_i hHeld
            clear hHeld
            go_wp2_with fail
            refine ret_gen fun W hW => ?_
            have hRes := (congrArg (fun x : World => x.heap[w.heap.size]?) hW).trans (blk_alloc (blk_six ((Below.heap_setCell w7 ⟨w2.heap.size + 1, 5, none⟩ _ w.heap.size (by simp; omega)).trans HR7.out) _ _ _ _ _ _) _)
            have hNew := (congrArg (fun x : World => x.heap[w7.heap.size]?) hW).trans (heap_new (w := w7) (by simp) _)
            have hRW : Rests w0 w W g b t3 := by rw [hW]; exact (by repeat (first | (with_reducible exact HI7.out) | (with_reducible apply Rests.drewN) | (with_reducible apply Rests.drew) | (with_reducible apply Rests.alloc) | (with_reducible refine Rests.put ?_ (by first | (simp; done) | (simp; omega)) _)))
            have hT1 := Tr.stays HTr.out (W := W) (by rw [hW]; exact (by repeat (first | (with_reducible exact HKA7.out) | (with_reducible apply Kept.alloc) | (with_reducible apply Kept.drew) | (with_reducible refine Kept.put ?_ (by first | (simp; done) | (simp; omega)) _)))) HG2.out (by simp)
            have hT2 := Tr.stays HTa.out (W := W) (by rw [hW]; exact (by repeat (first | (with_reducible exact HKB7.out) | (with_reducible apply Kept.alloc) | (with_reducible apply Kept.drew) | (with_reducible refine Kept.put ?_ (by first | (simp; done) | (simp; omega)) _)))) HG5.out (by simp)
            have hT3 := Tr.stays HTc.out (W := W) (by rw [hW]; exact (by repeat (first | (with_reducible exact HKC7.out) | (with_reducible apply Kept.alloc) | (with_reducible apply Kept.drew) | (with_reducible refine Kept.put ?_ (by first | (simp; done) | (simp; omega)) _)))) (Exists.choose_spec hGD) (by simp)
            have hq0 := (blk_cell hRes 0).trans rfl; have hq1 := (blk_cell hRes 1).trans rfl; have hq2 := (blk_cell hRes 2).trans rfl; have hq3 := (blk_cell hRes 3).trans rfl; have hq4 := (blk_cell hRes 4).trans rfl; have hq5 := (blk_cell hRes 5).trans rfl
            clear hW
            refine bodyPost_ret (v := .agg #[.string (mk [63]), .int .i64 ((0 : Nat) : Int), .string (mk []), .int .i64 (t1.pos : Int), .int .i64 ((0 : Nat) : Int), .slice (some ⟨w7.heap.size, 0, none⟩) 3 3]) (by simp [results, Tryz.results64, go_sem, hq0, hq1, hq2, hq3, hq4, hq5]; try exact ⟨rfl, rfl⟩) rfl ⟨⟨_, _, _, _, _, _, _, _, rfl, ⟨w7.heap.size, 3, [.string s10, .int .i64 n11, .string s12, .int .i64 n13, .int .i64 n14, .slice A1 l1 c1], [.string s20, .int .i64 n21, .string s22, .int .i64 n23, .int .i64 n24, .slice A2 l2 c2], [.string s30, .int .i64 n31, .string s32, .int .i64 n33, .int .i64 n34, .slice A3 l3 c3], [], by omega, by omega, hNew, rfl, Tr.lo (by simp) _ _ hT1, Tr.lo (by omega) _ _ hT2, Tr.lo (by show _ ≤ w6.heap.size; omega) _ _ hT3⟩⟩, hRW⟩
        · obtain ⟨c, p, hcp⟩ := bar_err t2
          obtain rfl : r = .err c p := by rw [← HR3.out, if_neg hp, hcp]
          have HC := Aside0.mk hcp
          have hob := op_no hp
          clear HR3 hro hp hcp
          go_wp2_with fail
          with_reducible refine (bar_rests E w0 b g w _ t2 _ _ HC.out HE.out (by repeat (first | (with_reducible exact HI5.out) | (with_reducible apply Rests.drewN) | (with_reducible apply Rests.drew) | (with_reducible apply Rests.alloc) | (with_reducible refine Rests.put ?_ (by first | (simp; done) | (simp; omega)) _)))).mono ?_
          rintro e w6 ⟨v, rfl, hv, hb⟩
          go_wp2_with fail
          exact ⟨rfl, v, rfl, hv, hb⟩
    · skip
      obtain rfl : r = .ok e1 t1 := by rw [← HR.out, if_neg hp]
      have hob := op_no hp
      clear HR hro hp
      go_wp2_with fail
      refine ret_gen fun W hW => ?_
      have hRes := (congrArg (fun x : World => x.heap[w.heap.size]?) hW).trans (blk_alloc (blk_six HR2.out _ _ _ _ _ _) _)
      have hRW : Rests w0 w W g b t1 := by rw [hW]; exact (by repeat (first | (with_reducible exact HI2.out) | (with_reducible apply Rests.drewN) | (with_reducible apply Rests.drew) | (with_reducible apply Rests.alloc) | (with_reducible refine Rests.put ?_ (by first | (simp; done) | (simp; omega)) _)))
      have hTW := Tr.under (w' := W) (r := w.heap.size) HTr.out (by rw [hW]; repeat (first | (with_reducible exact KeepBut.refl _ _ _) | (with_reducible apply KeepBut.set_) | (with_reducible apply keep_alloc))) (by simp)
      have hq0 := (blk_cell hRes 0).trans rfl; have hq1 := (blk_cell hRes 1).trans rfl; have hq2 := (blk_cell hRes 2).trans rfl; have hq3 := (blk_cell hRes 3).trans rfl; have hq4 := (blk_cell hRes 4).trans rfl; have hq5 := (blk_cell hRes 5).trans rfl
      clear hW
      refine bodyPost_ret (v := .agg #[.string s10, .int .i64 n11, .string s12, .int .i64 n13, .int .i64 n14, .slice A1 l1 c1]) (by simp [results, Tryz.results64, go_sem, hq0, hq1, hq2, hq3, hq4, hq5]; try rfl) rfl ⟨⟨_, _, _, _, _, _, _, _, rfl, Tr.lo (by simp) _ _ hTW⟩, hRW⟩
end Go.Proofs.YtjllmamblkejjaaGreatDoor
end

/- What (*arith.reader).expr comes to. No conditions. -/
section
set_option linter.unusedVariables false
set_option linter.unusedSimpArgs false
namespace Go.Proofs.YtjllmamblkejjaaGreatDoor
open Go.RowKit Go.Proofs.YtjllmamblkejjaaGreatDoorW.PrintWords Go.Proofs.YtjllmamblkejjaaGreatDoorW.PrintLast Go.Proofs.YtjllmamblkejjaaGreatDoorW.PrintMore
open PQA Sp

theorem next_short (b : Bs) (a : Nat) : (next b a).op.length ≤ 4 := by
  unfold next tokAt
  split
  · simp
  · split
    · simp [wNum]
    · split
      · simp [wName]
      · split
        · rename_i o ho
          have h : ∀ x ∈ ops, x.length ≤ 4 := by decide
          exact h o (List.mem_of_find?_eq_some ho)
        · simp [wNone]
theorem assigns_calls (op : Bs) (h : op.length ≤ 1024) (w : World) : Calls Tryz.prog 63 #[.string (mk op)] w fun e w' => e = .returned (.bool (assigns op)) ∧ Drawn0 w w' :=
  arith_assigns.calls (mk op) _ w (assigns_eq op h)
theorem rests_tok {w0 w W : World} {g : Nat} {b : Bs} {t t' : Tok} (h : Rests w0 w W g b t) (ht : TokOk b t') :
    Rests w0 w ((((((W.setCell ⟨g, 1, none⟩ (.string (mk t'.op))).setCell ⟨g, 2, none⟩ (.int .i64 (t'.pos : Int))).setCell ⟨g, 3, none⟩ (.int .i64 (t'.fin : Int))).setCell ⟨g, 4, none⟩ (.int .i64 (t'.num : Int))).setCell ⟨g, 5, none⟩ (.bool t'.over)).setCell ⟨g, 6, none⟩ (.string (mk t'.name))) g b t' := by
  obtain ⟨A, c, hg, hge, hc, hC⟩ := h.rd
  refine ⟨⟨A, c, ?_, hge, hc, hC⟩, ht, ?_, ?_, h.lt, h.ge⟩
  · exact blk_set (blk_set (blk_set (blk_set (blk_set (blk_set hg 1 (.string (mk t'.op))) 2 (.int .i64 (t'.pos : Int))) 3 (.int .i64 (t'.fin : Int))) 4 (.int .i64 (t'.num : Int))) 5 (.bool t'.over)) 6 (.string (mk t'.name))
  · exact (((((h.below.setCell hge _).setCell hge _).setCell hge _).setCell hge _).setCell hge _).setCell hge _
  · exact (((((h.keep.set_ 1 _).set_ 2 _).set_ 3 _).set_ 4 _).set_ 5 _).set_ 6 _

set_option maxHeartbeats 4000000 in
set_option maxRecDepth 100000 in
theorem expr_other (E : Nat → Addr) (w0 : World) (b : Bs) (f : Nat) (hE : Env E w0) (hlen : b.length ≤ 1024) (ihC : CondAt E w0 b f) (g : Nat) (w : World) (t : Tok) (r : Res Ex) (hI : Rests w0 w w g b t)
    (hop : t.op ≠ wName) (hr : expr b (f + 1) t = r) (hro : r ≠ .out) :
    Calls Tryz.prog 39 #[.pointer (some ⟨g, 0, none⟩)] w (PPost E w0 w g b r) := by
  have HI := Aside0.mk hI
  have HE := Aside0.mk hE
  have hglt := hI.lt
  obtain ⟨A, c, hg, hge, hc, hC⟩ := hI.rd
  have hk1 : w.cell? ⟨g, 1, none⟩ = some (.string (mk t.op)) := (blk_cell hg 1).trans rfl
  have hk2 : w.cell? ⟨g, 2, none⟩ = some (.int .i64 (t.pos : Int)) := (blk_cell hg 2).trans rfl
  have hk3 : w.cell? ⟨g, 3, none⟩ = some (.int .i64 (t.fin : Int)) := (blk_cell hg 3).trans rfl
  have hk4 : w.cell? ⟨g, 4, none⟩ = some (.int .i64 (t.num : Int)) := (blk_cell hg 4).trans rfl
  have hk5 : w.cell? ⟨g, 5, none⟩ = some (.bool t.over) := (blk_cell hg 5).trans rfl
  have hk6 : w.cell? ⟨g, 6, none⟩ = some (.string (mk t.name)) := (blk_cell hg 6).trans rfl
  clear hg hC hE hI
  have HR := Aside0.mk (show Sp.cond b f t = r from by rw [← hr, expr, if_neg (fun h => hop h.1)])
  have IHC := Aside0.mk ihC
  have HS := Aside0.mk (Rests.self (HI.out.alloc (.cells #[.string ⟨#[]⟩, .int .i64 0, .string ⟨#[]⟩, .int .i64 0, .int .i64 0, .slice none 0 0] 63)))
  have hob := op_no (v := [110, 97, 109, 101]) hop
  clear ihC hr hop
  cases hx : Sp.cond b f t with
  | out => exact absurd HR.out (by rw [hx]; exact fun h => hro h.symm)
  | err c p =>
    obtain rfl : r = .err c p := by rw [← HR.out, hx]
    have HCl := Aside0.mk (fun W h1 => IHC.out g W _ _ h1 hx (by simp))
    clear hx hro HR
    go_enter Tryz.func39, Tryz.ntmps39
    go_wp2_with fail
    with_reducible refine (HCl.out _ HS.out).mono ?_
    rintro e w2 ⟨v, rfl, hv, hb⟩
    go_wp2_with fail
    exact ⟨rfl, v, rfl, hv, hb⟩
  | ok e1 t1 =>
    have HCl := Aside0.mk (fun W h1 => IHC.out g W _ _ h1 hx (by simp))
    obtain rfl : r = .ok e1 t1 := by rw [← HR.out, hx]
    clear hx HR hro
    go_enter Tryz.func39, Tryz.ntmps39
    go_wp2_with fail
    with_reducible refine (HCl.out _ HS.out).mono ?_
    rintro e w2 ⟨⟨s10, n11, s12, n13, n14, A1, l1, c1, rfl, hTr⟩, hI2⟩
    have hK2 := hI2.keep
    have hr2 : w2.heap[w.heap.size]? = _ := hK2.blk (heap_new rfl _) (by omega) (by simp)
    have hd0 : w2.cell? ⟨w.heap.size, 0, none⟩ = some (.string ⟨#[]⟩) := (blk_cell hr2 0).trans rfl; have hd1 : w2.cell? ⟨w.heap.size, 1, none⟩ = some (.int .i64 0) := (blk_cell hr2 1).trans rfl; have hd2 : w2.cell? ⟨w.heap.size, 2, none⟩ = some (.string ⟨#[]⟩) := (blk_cell hr2 2).trans rfl; have hd3 : w2.cell? ⟨w.heap.size, 3, none⟩ = some (.int .i64 0) := (blk_cell hr2 3).trans rfl; have hd4 : w2.cell? ⟨w.heap.size, 4, none⟩ = some (.int .i64 0) := (blk_cell hr2 4).trans rfl; have hd5 : w2.cell? ⟨w.heap.size, 5, none⟩ = some (.slice none 0 0) := (blk_cell hr2 5).trans rfl; have hf0 := blk_frozen hr2 0; have hf1 := blk_frozen hr2 1; have hf2 := blk_frozen hr2 2; have hf3 := blk_frozen hr2 3; have hf4 := blk_frozen hr2 4; have hf5 := blk_frozen hr2 5
    have HR2 := Aside0.mk hr2
    have hlt2 := blk_lt hr2
    have HTr := Aside0.mk hTr
    have HI2 := Aside0.mk (Rests.trans (HI.out.alloc _) hI2)
    clear hTr hI2 hK2 hr2
    go_wp2_with fail
    refine ret_gen fun W hW => ?_
    have hRes := (congrArg (fun x : World => x.heap[w.heap.size]?) hW).trans (blk_six HR2.out _ _ _ _ _ _)
    have hRW : Rests w0 w W g b t1 := by rw [hW]; exact (by repeat (first | (with_reducible exact HI2.out) | (with_reducible apply Rests.drewN) | (with_reducible apply Rests.drew) | (with_reducible apply Rests.alloc) | (with_reducible refine Rests.put ?_ (by first | (simp; done) | (simp; omega)) _)))
    have hTW := Tr.under (w' := W) (r := w.heap.size) HTr.out (by rw [hW]; repeat (first | (with_reducible exact KeepBut.refl _ _ _) | (with_reducible apply KeepBut.set_) | (with_reducible apply keep_alloc))) (by simp; try omega)
    have hq0 := (blk_cell hRes 0).trans rfl; have hq1 := (blk_cell hRes 1).trans rfl; have hq2 := (blk_cell hRes 2).trans rfl; have hq3 := (blk_cell hRes 3).trans rfl; have hq4 := (blk_cell hRes 4).trans rfl; have hq5 := (blk_cell hRes 5).trans rfl
    clear hW
    refine bodyPost_ret (v := .agg #[.string s10, .int .i64 n11, .string s12, .int .i64 n13, .int .i64 n14, .slice A1 l1 c1]) (by simp [results, Tryz.results39, go_sem, hq0, hq1, hq2, hq3, hq4, hq5]; try rfl) rfl ⟨⟨_, _, _, _, _, _, _, _, rfl, Tr.lo (by simp; try omega) _ _ hTW⟩, hRW⟩

set_option maxHeartbeats 4000000 in
set_option maxRecDepth 100000 in
theorem expr_no (E : Nat → Addr) (w0 : World) (b : Bs) (f : Nat) (hE : Env E w0) (hlen : b.length ≤ 1024) (ihC : CondAt E w0 b f) (g : Nat) (w : World) (t : Tok) (r : Res Ex) (hI : Rests w0 w w g b t)
    (hop : t.op = wName) (has : assigns (next b t.fin).op = false) (hr : expr b (f + 1) t = r) (hro : r ≠ .out) :
    Calls Tryz.prog 39 #[.pointer (some ⟨g, 0, none⟩)] w (PPost E w0 w g b r) := by
  have HI := Aside0.mk hI
  have HE := Aside0.mk hE
  have hglt := hI.lt
  obtain ⟨A, c, hg, hge, hc, hC⟩ := hI.rd
  have hk1 : w.cell? ⟨g, 1, none⟩ = some (.string (mk t.op)) := (blk_cell hg 1).trans rfl
  have hk2 : w.cell? ⟨g, 2, none⟩ = some (.int .i64 (t.pos : Int)) := (blk_cell hg 2).trans rfl
  have hk3 : w.cell? ⟨g, 3, none⟩ = some (.int .i64 (t.fin : Int)) := (blk_cell hg 3).trans rfl
  have hk4 : w.cell? ⟨g, 4, none⟩ = some (.int .i64 (t.num : Int)) := (blk_cell hg 4).trans rfl
  have hk5 : w.cell? ⟨g, 5, none⟩ = some (.bool t.over) := (blk_cell hg 5).trans rfl
  have hk6 : w.cell? ⟨g, 6, none⟩ = some (.string (mk t.name)) := (blk_cell hg 6).trans rfl
  clear hg hC hE hI
  have HR := Aside0.mk (show Sp.cond b f t = r from by rw [← hr, expr, if_neg (fun h => by rw [has] at h; exact absurd h.2 (by decide))])
  have IHC := Aside0.mk ihC
  have HT := Aside0.mk HI.out.ok.2.1
  have HAS := Aside0.mk (And.intro has (next_short b t.fin))
  have hob := op_yes (v := [110, 97, 109, 101]) hop
  clear ihC hr hop has
  go_enter Tryz.func39, Tryz.ntmps39
  go_wp2_with fail
  with_reducible refine (next_calls b t g w0 _ t.fin (Rests.rd (by repeat (first | (with_reducible exact HI.out) | (with_reducible apply Rests.drewN) | (with_reducible apply Rests.drew) | (with_reducible apply Rests.alloc) | (with_reducible refine Rests.put ?_ (by first | (simp; done) | (simp; omega)) _)))) (Rests.below (by repeat (first | (with_reducible exact HI.out) | (with_reducible apply Rests.drewN) | (with_reducible apply Rests.drew) | (with_reducible apply Rests.alloc) | (with_reducible refine Rests.put ?_ (by first | (simp; done) | (simp; omega)) _)))) HT.out (by omega)).mono ?_
  rintro e w1 ⟨rfl, hb1⟩
  have hr1 := (hb1.block _ (by simp)).trans (heap_new (w := w) rfl (.cells #[.string ⟨#[]⟩, .int .i64 0, .string ⟨#[]⟩, .int .i64 0, .int .i64 0, .slice none 0 0] 63))
  have HRr1 := Aside0.mk hr1
  have HI1 := Aside0.mk (Rests.mk (w0 := w0) (w := w) (g := g) (b := b) (t := t) ((HI.out.alloc (.cells #[.string ⟨#[]⟩, .int .i64 0, .string ⟨#[]⟩, .int .i64 0, .int .i64 0, .slice none 0 0] 63)).rd.keep hb1) HI.out.ok (below_then (HI.out.alloc (.cells #[.string ⟨#[]⟩, .int .i64 0, .string ⟨#[]⟩, .int .i64 0, .int .i64 0, .slice none 0 0] 63)).below (HI.out.alloc (.cells #[.string ⟨#[]⟩, .int .i64 0, .string ⟨#[]⟩, .int .i64 0, .int .i64 0, .slice none 0 0] 63)).below.size hb1) (KeepBut.trans (HI.out.alloc (.cells #[.string ⟨#[]⟩, .int .i64 0, .string ⟨#[]⟩, .int .i64 0, .int .i64 0, .slice none 0 0] 63)).keep (KeepBut.of_below hb1 g none) (.inl rfl)) HI.out.lt HI.out.ge)
  have hlt1 := blk_lt hr1
  have hg1 : g < w1.heap.size := by omega
  clear hr1 hb1
  generalize hn : next b t.fin = t' at *
  have HN := Aside0.mk hn
  unfold tokV
  clear hn
  have hs' := HAS.out
  have HAS' := Aside0.mk hs'
  have hs1 := hs'.1
  clear hs'
  go_wp2_with fail
  with_reducible refine (assigns_calls t'.op (by have := HAS'.out.2; omega) _).mono ?_
  rintro e w3 ⟨rfl, nd, rfl⟩
  rw [hs1]
  clear hs1
  have HS := Aside0.mk (Rests.self ((HI1.out.alloc (.cells #[.string (mk t'.op), .int .i64 (t'.pos : Int), .int .i64 (t'.fin : Int), .int .i64 (t'.num : Int), .bool t'.over, .string (mk t'.name)] 75)).drewN nd))
  cases hx : Sp.cond b f t with
  | out => exact absurd HR.out (by rw [hx]; exact fun h => hro h.symm)
  | err c p =>
    obtain rfl : r = .err c p := by rw [← HR.out, hx]
    have HCl := Aside0.mk (fun W h1 => IHC.out g W _ _ h1 hx (by simp))
    clear hx hro HR
    go_wp2_with fail
    with_reducible refine (HCl.out _ HS.out).mono ?_
    rintro e w2 ⟨v, rfl, hv, hb⟩
    go_wp2_with fail
    exact ⟨rfl, v, rfl, hv, hb⟩
  | ok e1 t1 =>
    have HCl := Aside0.mk (fun W h1 => IHC.out g W _ _ h1 hx (by simp))
    obtain rfl : r = .ok e1 t1 := by rw [← HR.out, hx]
    clear hx HR hro
    go_wp2_with fail
    with_reducible refine (HCl.out _ HS.out).mono ?_
    rintro e w2 ⟨⟨s10, n11, s12, n13, n14, A1, l1, c1, rfl, hTr⟩, hI2⟩
    have hK2 := hI2.keep
    have hr2 : w2.heap[w.heap.size]? = _ := hK2.blk (blk_alloc HRr1.out _) (by omega) (by simp)
    have hd0 : w2.cell? ⟨w.heap.size, 0, none⟩ = some (.string ⟨#[]⟩) := (blk_cell hr2 0).trans rfl; have hd1 : w2.cell? ⟨w.heap.size, 1, none⟩ = some (.int .i64 0) := (blk_cell hr2 1).trans rfl; have hd2 : w2.cell? ⟨w.heap.size, 2, none⟩ = some (.string ⟨#[]⟩) := (blk_cell hr2 2).trans rfl; have hd3 : w2.cell? ⟨w.heap.size, 3, none⟩ = some (.int .i64 0) := (blk_cell hr2 3).trans rfl; have hd4 : w2.cell? ⟨w.heap.size, 4, none⟩ = some (.int .i64 0) := (blk_cell hr2 4).trans rfl; have hd5 : w2.cell? ⟨w.heap.size, 5, none⟩ = some (.slice none 0 0) := (blk_cell hr2 5).trans rfl; have hf0 := blk_frozen hr2 0; have hf1 := blk_frozen hr2 1; have hf2 := blk_frozen hr2 2; have hf3 := blk_frozen hr2 3; have hf4 := blk_frozen hr2 4; have hf5 := blk_frozen hr2 5
    have HR2 := Aside0.mk hr2
    have hlt2 := blk_lt hr2
    have HTr := Aside0.mk hTr
    have HI2 := Aside0.mk (Rests.trans ((HI1.out.alloc _).drewN _) hI2)
    clear hTr hI2 hK2 hr2
    go_wp2_with fail
    refine ret_gen fun W hW => ?_
    have hRes := (congrArg (fun x : World => x.heap[w.heap.size]?) hW).trans (blk_six HR2.out _ _ _ _ _ _)
    have hRW : Rests w0 w W g b t1 := by rw [hW]; exact (by repeat (first | (with_reducible exact HI2.out) | (with_reducible apply Rests.drewN) | (with_reducible apply Rests.drew) | (with_reducible apply Rests.alloc) | (with_reducible refine Rests.put ?_ (by first | (simp; done) | (simp; omega)) _)))
    have hTW := Tr.under (w' := W) (r := w.heap.size) HTr.out (by rw [hW]; repeat (first | (with_reducible exact KeepBut.refl _ _ _) | (with_reducible apply KeepBut.set_) | (with_reducible apply keep_alloc))) (by simp; try omega)
    have hq0 := (blk_cell hRes 0).trans rfl; have hq1 := (blk_cell hRes 1).trans rfl; have hq2 := (blk_cell hRes 2).trans rfl; have hq3 := (blk_cell hRes 3).trans rfl; have hq4 := (blk_cell hRes 4).trans rfl; have hq5 := (blk_cell hRes 5).trans rfl
    clear hW
    refine bodyPost_ret (v := .agg #[.string s10, .int .i64 n11, .string s12, .int .i64 n13, .int .i64 n14, .slice A1 l1 c1]) (by simp [results, Tryz.results39, go_sem, hq0, hq1, hq2, hq3, hq4, hq5]; try rfl) rfl ⟨⟨_, _, _, _, _, _, _, _, rfl, Tr.lo (by simp; try omega) _ _ hTW⟩, hRW⟩

set_option maxHeartbeats 4000000 in
set_option maxRecDepth 100000 in
theorem expr_yes (E : Nat → Addr) (w0 : World) (b : Bs) (f : Nat) (hE : Env E w0) (hlen : b.length ≤ 1024) (ihE : ExprAt E w0 b f) (g : Nat) (w : World) (t : Tok) (r : Res Ex) (hI : Rests w0 w w g b t)
    (hop : t.op = wName) (has : assigns (next b t.fin).op = true) (hr : expr b (f + 1) t = r) (hro : r ≠ .out) :
    Calls Tryz.prog 39 #[.pointer (some ⟨g, 0, none⟩)] w (PPost E w0 w g b r) := by
  have HI := Aside0.mk hI
  have HE := Aside0.mk hE
  have hglt := hI.lt
  obtain ⟨A, c, hg, hge, hc, hC⟩ := hI.rd
  have hk1 : w.cell? ⟨g, 1, none⟩ = some (.string (mk t.op)) := (blk_cell hg 1).trans rfl
  have hk2 : w.cell? ⟨g, 2, none⟩ = some (.int .i64 (t.pos : Int)) := (blk_cell hg 2).trans rfl
  have hk3 : w.cell? ⟨g, 3, none⟩ = some (.int .i64 (t.fin : Int)) := (blk_cell hg 3).trans rfl
  have hk4 : w.cell? ⟨g, 4, none⟩ = some (.int .i64 (t.num : Int)) := (blk_cell hg 4).trans rfl
  have hk5 : w.cell? ⟨g, 5, none⟩ = some (.bool t.over) := (blk_cell hg 5).trans rfl
  have hk6 : w.cell? ⟨g, 6, none⟩ = some (.string (mk t.name)) := (blk_cell hg 6).trans rfl
  clear hg hC hE hI
  have HR := Aside0.mk (show ((expr b f (next b (next b t.fin).fin)).bind fun e t' => .ok (.asg (next b t.fin).op t.name t.pos (next b t.fin).pos e) t') = r from by rw [← hr, expr, if_pos ⟨hop, has⟩])
  have IHE := Aside0.mk ihE
  have HT := Aside0.mk HI.out.ok.2.1
  have HAS := Aside0.mk (And.intro has (next_short b t.fin))
  have HTO := Aside0.mk (next_ok b _ HI.out.ok.2.1)
  have hob := op_yes (v := [110, 97, 109, 101]) hop
  clear ihE hr hop has
  go_enter Tryz.func39, Tryz.ntmps39
  go_wp2_with fail
  with_reducible refine (next_calls b t g w0 _ t.fin (Rests.rd (by repeat (first | (with_reducible exact HI.out) | (with_reducible apply Rests.drewN) | (with_reducible apply Rests.drew) | (with_reducible apply Rests.alloc) | (with_reducible refine Rests.put ?_ (by first | (simp; done) | (simp; omega)) _)))) (Rests.below (by repeat (first | (with_reducible exact HI.out) | (with_reducible apply Rests.drewN) | (with_reducible apply Rests.drew) | (with_reducible apply Rests.alloc) | (with_reducible refine Rests.put ?_ (by first | (simp; done) | (simp; omega)) _)))) HT.out (by omega)).mono ?_
  rintro e w1 ⟨rfl, hb1⟩
  have hr1 := (hb1.block _ (by simp)).trans (heap_new (w := w) rfl (.cells #[.string ⟨#[]⟩, .int .i64 0, .string ⟨#[]⟩, .int .i64 0, .int .i64 0, .slice none 0 0] 63))
  have HRr1 := Aside0.mk hr1
  have HI1 := Aside0.mk (Rests.mk (w0 := w0) (w := w) (g := g) (b := b) (t := t) ((HI.out.alloc (.cells #[.string ⟨#[]⟩, .int .i64 0, .string ⟨#[]⟩, .int .i64 0, .int .i64 0, .slice none 0 0] 63)).rd.keep hb1) HI.out.ok (below_then (HI.out.alloc (.cells #[.string ⟨#[]⟩, .int .i64 0, .string ⟨#[]⟩, .int .i64 0, .int .i64 0, .slice none 0 0] 63)).below (HI.out.alloc (.cells #[.string ⟨#[]⟩, .int .i64 0, .string ⟨#[]⟩, .int .i64 0, .int .i64 0, .slice none 0 0] 63)).below.size hb1) (KeepBut.trans (HI.out.alloc (.cells #[.string ⟨#[]⟩, .int .i64 0, .string ⟨#[]⟩, .int .i64 0, .int .i64 0, .slice none 0 0] 63)).keep (KeepBut.of_below hb1 g none) (.inl rfl)) HI.out.lt HI.out.ge)
  have hlt1 := blk_lt hr1
  have hg1 : g < w1.heap.size := by omega
  obtain ⟨A', c', hgg, _⟩ := HI1.out.rd; have hm1 : w1.cell? ⟨g, 1, none⟩ = some (.string (mk t.op)) := (blk_cell hgg 1).trans rfl; have hm2 : w1.cell? ⟨g, 2, none⟩ = some (.int .i64 (t.pos : Int)) := (blk_cell hgg 2).trans rfl; have hm3 : w1.cell? ⟨g, 3, none⟩ = some (.int .i64 (t.fin : Int)) := (blk_cell hgg 3).trans rfl; have hm4 : w1.cell? ⟨g, 4, none⟩ = some (.int .i64 (t.num : Int)) := (blk_cell hgg 4).trans rfl; have hm5 : w1.cell? ⟨g, 5, none⟩ = some (.bool t.over) := (blk_cell hgg 5).trans rfl; have hm6 : w1.cell? ⟨g, 6, none⟩ = some (.string (mk t.name)) := (blk_cell hgg 6).trans rfl; have hmf1 := blk_frozen hgg 1; have hmf2 := blk_frozen hgg 2; have hmf3 := blk_frozen hgg 3; have hmf4 := blk_frozen hgg 4; have hmf5 := blk_frozen hgg 5; have hmf6 := blk_frozen hgg 6; clear hr1 hb1 hgg hge hc
  generalize hn : next b t.fin = t' at *
  have HN := Aside0.mk hn
  unfold tokV
  clear hn
  have hs' := HAS.out
  have HAS' := Aside0.mk hs'
  have hs1 := hs'.1
  clear hs'
  go_wp2_with fail
  with_reducible refine (assigns_calls t'.op (by have := HAS'.out.2; omega) _).mono ?_
  rintro e w3 ⟨rfl, nd, rfl⟩
  rw [hs1]
  clear hs1
  go_wp2_with fail
  go_region_held3 (fun W => W.cell? ⟨w1.heap.size, 0, none⟩ = some (.string (mk t'.op)) ∧ W.cell? ⟨w1.heap.size, 1, none⟩ = some (.int .i64 (t'.pos : Int)) ∧ W.cell? ⟨g, 2, none⟩ = some (.int .i64 (t.pos : Int)) ∧ W.cell? ⟨g, 6, none⟩ = some (.string (mk t.name))) (go_keep) (fail)
  rename_i hHeld
  clear hHeld
  go_wp2_with fail
  with_reducible refine (pass_rests b t' g w0 w _ (Rests.alloc (rests_tok ((HI1.out.alloc _).drewN _) HTO.out) _) hlen).mono ?_
  rintro e w4 ⟨rfl, hI4, hK4⟩
  have hKU : KeepBut w1 w4 g none := KeepBut.trans (by repeat (first | (with_reducible exact KeepBut.refl _ _ _) | (with_reducible apply KeepBut.set_) | (with_reducible apply keep_alloc) | (with_reducible apply keep_drewN))) hK4 (.inl rfl)
  have hr4 : w4.heap[w.heap.size]? = _ := hKU.blk HRr1.out (by omega) (by simp)
  have hbo4 : w4.heap[w1.heap.size + 1]? = _ := hK4.blk (heap_at (by simp) _) (by omega) (by simp)
  have HR4 := Aside0.mk hr4
  have HBO4 := Aside0.mk hbo4
  have hlt4 := blk_lt hbo4
  have HI4 := Aside0.mk hI4
  have HS4 := Aside0.mk hI4.self
  clear hr4 hbo4 hI4 hK4 hKU
  cases hx : expr b f (next b t'.fin) with
  | out => exact absurd HR.out (by rw [hx]; exact fun h => hro h.symm)
  | err c p =>
    obtain rfl : r = .err c p := by rw [← HR.out, hx]; rfl
    have HCl := Aside0.mk (fun W h1 => IHE.out g W _ _ h1 hx (by simp))
    clear hx hro HR
    go_wp2_with fail
    with_reducible refine (HCl.out _ HS4.out).mono ?_
    rintro e w7 ⟨v, rfl, hv, hb⟩
    go_wp2_with fail
    exact ⟨rfl, v, rfl, hv, hb⟩
  | ok e1 t1 =>
    obtain rfl : r = .ok (.asg t'.op t.name t.pos t'.pos e1) t1 := by rw [← HR.out, hx]; rfl
    have HCl := Aside0.mk (fun W h1 => IHE.out g W _ _ h1 hx (by simp))
    clear hx hro HR
    go_wp2_with fail
    with_reducible refine (HCl.out _ HS4.out).mono ?_
    rintro e w5 ⟨⟨s10, n11, s12, n13, n14, A1, l1, c1, rfl, hTr⟩, hI2⟩
    have hK5 := hI2.keep
    have hbo5 : w5.heap[w1.heap.size + 1]? = _ := hK5.blk HBO4.out (by omega) (by simp)
    have hr5 : w5.heap[w.heap.size]? = _ := hK5.blk HR4.out (by omega) (by simp)
    have xo0 : w5.cell? ⟨w1.heap.size + 1, 0, none⟩ = some (.string (mk t'.op)) := (blk_cell hbo5 0).trans rfl; have xo1 : w5.cell? ⟨w1.heap.size + 1, 1, none⟩ = some (.int .i64 0) := (blk_cell hbo5 1).trans rfl; have xo2 : w5.cell? ⟨w1.heap.size + 1, 2, none⟩ = some (.string (mk t.name)) := (blk_cell hbo5 2).trans rfl; have xo3 : w5.cell? ⟨w1.heap.size + 1, 3, none⟩ = some (.int .i64 (t.pos : Int)) := (blk_cell hbo5 3).trans rfl; have xo4 : w5.cell? ⟨w1.heap.size + 1, 4, none⟩ = some (.int .i64 (t'.pos : Int)) := (blk_cell hbo5 4).trans rfl; have xo5 : w5.cell? ⟨w1.heap.size + 1, 5, none⟩ = some (.slice none 0 0) := (blk_cell hbo5 5).trans rfl
    have hd0 : w5.cell? ⟨w.heap.size, 0, none⟩ = some (.string ⟨#[]⟩) := (blk_cell hr5 0).trans rfl; have hd1 : w5.cell? ⟨w.heap.size, 1, none⟩ = some (.int .i64 0) := (blk_cell hr5 1).trans rfl; have hd2 : w5.cell? ⟨w.heap.size, 2, none⟩ = some (.string ⟨#[]⟩) := (blk_cell hr5 2).trans rfl; have hd3 : w5.cell? ⟨w.heap.size, 3, none⟩ = some (.int .i64 0) := (blk_cell hr5 3).trans rfl; have hd4 : w5.cell? ⟨w.heap.size, 4, none⟩ = some (.int .i64 0) := (blk_cell hr5 4).trans rfl; have hd5 : w5.cell? ⟨w.heap.size, 5, none⟩ = some (.slice none 0 0) := (blk_cell hr5 5).trans rfl; have hf0 := blk_frozen hr5 0; have hf1 := blk_frozen hr5 1; have hf2 := blk_frozen hr5 2; have hf3 := blk_frozen hr5 3; have hf4 := blk_frozen hr5 4; have hf5 := blk_frozen hr5 5
    have hf5o := blk_frozen hbo5 5
    have HR5 := Aside0.mk hr5
    have HBO5 := Aside0.mk hbo5
    have hltr5 := blk_lt hr5
    have hlto5 := blk_lt hbo5
    have HTr := Aside0.mk hTr
    have hGD := Aside0.mk hI2.rd.blk
    have HI5 := Aside0.mk (Rests.trans HI4.out hI2)
    clear hTr hI2 hK5 hr5 hbo5
    go_wp2_with fail
    refine ret_gen fun W hW => ?_
    have hRes := (congrArg (fun x : World => x.heap[w.heap.size]?) hW).trans (blk_alloc (blk_six ((Below.heap_setCell w5 ⟨w1.heap.size + 1, 5, none⟩ _ w.heap.size (by simp; omega)).trans HR5.out) _ _ _ _ _ _) _)
    have hNew := (congrArg (fun x : World => x.heap[w5.heap.size]?) hW).trans (heap_new (w := w5) (by simp) _)
    have hRW : Rests w0 w W g b t1 := by rw [hW]; exact (by repeat (first | (with_reducible exact HI5.out) | (with_reducible apply Rests.drewN) | (with_reducible apply Rests.drew) | (with_reducible apply Rests.alloc) | (with_reducible refine Rests.put ?_ (by first | (simp; done) | (simp; omega)) _)))
    have hT1 := Tr.stays HTr.out (W := W) (by rw [hW]; exact (by repeat (first | (with_reducible exact Kept.refl _ _ _) | (with_reducible apply Kept.alloc) | (with_reducible refine Kept.put ?_ (by first | (simp; done) | (simp; omega)) _)))) (Exists.choose_spec hGD.out) (by simp)
    have hq0 := (blk_cell hRes 0).trans rfl; have hq1 := (blk_cell hRes 1).trans rfl; have hq2 := (blk_cell hRes 2).trans rfl; have hq3 := (blk_cell hRes 3).trans rfl; have hq4 := (blk_cell hRes 4).trans rfl; have hq5 := (blk_cell hRes 5).trans rfl
    clear hW
    refine bodyPost_ret (v := .agg #[.string (mk t'.op), .int .i64 ((0 : Nat) : Int), .string (mk t.name), .int .i64 (t.pos : Int), .int .i64 (t'.pos : Int), .slice (some ⟨w5.heap.size, 0, none⟩) 1 1]) (by simp [results, Tryz.results39, go_sem, hq0, hq1, hq2, hq3, hq4, hq5]; try exact ⟨rfl, rfl⟩) rfl ⟨⟨_, _, _, _, _, _, _, _, rfl, ⟨w5.heap.size, 1, [.string s10, .int .i64 n11, .string s12, .int .i64 n13, .int .i64 n14, .slice A1 l1 c1], [], by omega, by omega, hNew, rfl, Tr.lo (by show _ ≤ w4.heap.size; omega) _ _ hT1⟩⟩, hRW⟩

theorem expr_calls (E : Nat → Addr) (w0 : World) (b : Bs) (f : Nat) (hE : Env E w0) (hlen : b.length ≤ 1024) (ihC : CondAt E w0 b f) (ihE : ExprAt E w0 b f) : ExprAt E w0 b (f + 1) := by
  intro g w t r hI hr hro
  by_cases h1 : t.op = wName
  · cases h2 : assigns (next b t.fin).op with
    | true => exact expr_yes E w0 b f hE hlen ihE g w t r hI h1 h2 hr hro
    | false => exact expr_no E w0 b f hE hlen ihC g w t r hI h1 h2 hr hro
  · exact expr_other E w0 b f hE hlen ihC g w t r hI h1 hr hro
end Go.Proofs.YtjllmamblkejjaaGreatDoor
end

/- What (*arith.reader).bin comes to. No conditions. -/
section
set_option linter.unusedVariables false
set_option linter.unusedSimpArgs false
namespace Go.Proofs.YtjllmamblkejjaaGreatDoor
open Go.RowKit Go.Proofs.YtjllmamblkejjaaGreatDoorW.PrintWords Go.Proofs.YtjllmamblkejjaaGreatDoorW.PrintLast Go.Proofs.YtjllmamblkejjaaGreatDoorW.PrintMore
open PQA Sp

/-- A tree whose rows lie in blocks of which P is said. -/
def TrP (w : World) (P : Nat → Prop) : Ex → List Value → Prop
  | .num n pos, cs => cs = hd wNum n [] pos 0 (.slice none 0 0)
  | .name x pos, cs => cs = hd wName 0 x pos 0 (.slice none 0 0)
  | .un op pos e, cs => ∃ b c k z, P b ∧ 1 ≤ c ∧ w.heap[b]? = some (.cells (k ++ z).toArray 63 (0, 0)) ∧ cs = hd op 0 [] pos 0 (.slice (some ⟨b, 0, none⟩) 1 c) ∧ TrP w P e k
  | .bin op pos e1 e2, cs => ∃ b c k1 k2 z, P b ∧ 2 ≤ c ∧ w.heap[b]? = some (.cells (k1 ++ k2 ++ z).toArray 63 (0, 0)) ∧ cs = hd op 0 [] pos 0 (.slice (some ⟨b, 0, none⟩) 2 c) ∧ TrP w P e1 k1 ∧ TrP w P e2 k2
  | .tern pos e1 e2 e3, cs => ∃ b c k1 k2 k3 z, P b ∧ 3 ≤ c ∧ w.heap[b]? = some (.cells (k1 ++ k2 ++ k3 ++ z).toArray 63 (0, 0)) ∧ cs = hd [63] 0 [] pos 0 (.slice (some ⟨b, 0, none⟩) 3 c) ∧ TrP w P e1 k1 ∧ TrP w P e2 k2 ∧ TrP w P e3 k3
  | .asg op x pos apos e, cs => ∃ b c k z, P b ∧ 1 ≤ c ∧ w.heap[b]? = some (.cells (k ++ z).toArray 63 (0, 0)) ∧ cs = hd op 0 x pos apos (.slice (some ⟨b, 0, none⟩) 1 c) ∧ TrP w P e k
theorem TrP.keep {w w' : World} {P : Nat → Prop} (hk : ∀ k cells, P k → w.heap[k]? = some (.cells cells 63 (0, 0)) → w'.heap[k]? = w.heap[k]?) : ∀ (ex : Ex) (cs : List Value), TrP w P ex cs → TrP w' P ex cs
  | .num n pos, cs, h => h
  | .name x pos, cs, h => h
  | .un op pos e, cs, ⟨b, c, k, z, hb, hc, hh, hcs, h1⟩ => ⟨b, c, k, z, hb, hc, (hk b _ hb hh).trans hh, hcs, TrP.keep hk e k h1⟩
  | .bin op pos e1 e2, cs, ⟨b, c, k1, k2, z, hb, hc, hh, hcs, h1, h2⟩ => ⟨b, c, k1, k2, z, hb, hc, (hk b _ hb hh).trans hh, hcs, TrP.keep hk e1 k1 h1, TrP.keep hk e2 k2 h2⟩
  | .tern pos e1 e2 e3, cs, ⟨b, c, k1, k2, k3, z, hb, hc, hh, hcs, h1, h2, h3⟩ => ⟨b, c, k1, k2, k3, z, hb, hc, (hk b _ hb hh).trans hh, hcs, TrP.keep hk e1 k1 h1, TrP.keep hk e2 k2 h2, TrP.keep hk e3 k3 h3⟩
  | .asg op x pos apos e, cs, ⟨b, c, k, z, hb, hc, hh, hcs, h1⟩ => ⟨b, c, k, z, hb, hc, (hk b _ hb hh).trans hh, hcs, TrP.keep hk e k h1⟩
theorem TrP.of {w : World} {lo : Nat} {P : Nat → Prop} (hk : ∀ k, lo ≤ k → k < w.heap.size → P k) : ∀ (ex : Ex) (cs : List Value), Tr w lo ex cs → TrP w P ex cs
  | .num n pos, cs, h => h
  | .name x pos, cs, h => h
  | .un op pos e, cs, ⟨b, c, k, z, hb, hc, hh, hcs, h1⟩ => ⟨b, c, k, z, hk b hb (blk_lt hh), hc, hh, hcs, TrP.of hk e k h1⟩
  | .bin op pos e1 e2, cs, ⟨b, c, k1, k2, z, hb, hc, hh, hcs, h1, h2⟩ => ⟨b, c, k1, k2, z, hk b hb (blk_lt hh), hc, hh, hcs, TrP.of hk e1 k1 h1, TrP.of hk e2 k2 h2⟩
  | .tern pos e1 e2 e3, cs, ⟨b, c, k1, k2, k3, z, hb, hc, hh, hcs, h1, h2, h3⟩ => ⟨b, c, k1, k2, k3, z, hk b hb (blk_lt hh), hc, hh, hcs, TrP.of hk e1 k1 h1, TrP.of hk e2 k2 h2, TrP.of hk e3 k3 h3⟩
  | .asg op x pos apos e, cs, ⟨b, c, k, z, hb, hc, hh, hcs, h1⟩ => ⟨b, c, k, z, hk b hb (blk_lt hh), hc, hh, hcs, TrP.of hk e k h1⟩
theorem TrP.tr {w : World} {lo : Nat} {P : Nat → Prop} (hk : ∀ k, P k → lo ≤ k) : ∀ (ex : Ex) (cs : List Value), TrP w P ex cs → Tr w lo ex cs
  | .num n pos, cs, h => h
  | .name x pos, cs, h => h
  | .un op pos e, cs, ⟨b, c, k, z, hb, hc, hh, hcs, h1⟩ => ⟨b, c, k, z, hk b hb, hc, hh, hcs, TrP.tr hk e k h1⟩
  | .bin op pos e1 e2, cs, ⟨b, c, k1, k2, z, hb, hc, hh, hcs, h1, h2⟩ => ⟨b, c, k1, k2, z, hk b hb, hc, hh, hcs, TrP.tr hk e1 k1 h1, TrP.tr hk e2 k2 h2⟩
  | .tern pos e1 e2 e3, cs, ⟨b, c, k1, k2, k3, z, hb, hc, hh, hcs, h1, h2, h3⟩ => ⟨b, c, k1, k2, k3, z, hk b hb, hc, hh, hcs, TrP.tr hk e1 k1 h1, TrP.tr hk e2 k2 h2, TrP.tr hk e3 k3 h3⟩
  | .asg op x pos apos e, cs, ⟨b, c, k, z, hb, hc, hh, hcs, h1⟩ => ⟨b, c, k, z, hk b hb, hc, hh, hcs, TrP.tr hk e k h1⟩
theorem TrP.below {w w' : World} {P : Nat → Prop} {ex : Ex} {cs : List Value} (h : TrP w P ex cs) (hb : Below w.heap.size w w') : TrP w' P ex cs := TrP.keep (fun k _ _ hk => hb.block k (blk_lt hk)) ex cs h
theorem TrP.under {w w' : World} {P : Nat → Prop} {r : Nat} {ex : Ex} {cs : List Value} (h : TrP w P ex cs) (hb : KeepBut w w' r none) (hr : ∀ k, P k → k ≠ r) : TrP w' P ex cs :=
  TrP.keep (fun k _ hl hk => hb.2 k (blk_lt hk) (hr k hl) (by simp)) ex cs h
theorem TrP.kept {w w' : World} {P : Nat → Prop} {g : Nat} {ex : Ex} {cs : List Value} {gc : Array Value} {gt : TypeId} (h : TrP w P ex cs) (hb : KeepBut w w' g none) (hg : w.heap[g]? = some (.cells gc gt (0, 0))) (ht : gt ≠ 63) : TrP w' P ex cs :=
  TrP.keep (fun k _ _ hk => hb.2 k (blk_lt hk) (fun e => blk_ne (e ▸ hg) hk ht rfl) (by simp)) ex cs h
/-- The blocks of which P is said lie in W as in w, but for the reader. -/
structure KeptP (w : World) (P : Nat → Prop) (g : Nat) (W : World) : Prop where
  size : w.heap.size ≤ W.heap.size
  block : ∀ k, P k → k < w.heap.size → k ≠ g → W.heap[k]? = w.heap[k]?
theorem KeptP.refl (w : World) (P : Nat → Prop) (g : Nat) : KeptP w P g w := ⟨Nat.le_refl _, fun _ _ _ _ => rfl⟩
theorem KeptP.step {w W W' : World} {P : Nat → Prop} {g : Nat} (h : KeptP w P g W) (k : KeepBut W W' g none) : KeptP w P g W' :=
  ⟨Nat.le_trans h.size k.1, fun i h1 h2 h3 => (k.2 i (Nat.lt_of_lt_of_le h2 h.size) h3 (by simp)).trans (h.block i h1 h2 h3)⟩
theorem KeptP.alloc {w W : World} {P : Nat → Prop} {g : Nat} (h : KeptP w P g W) (o : Obj) : KeptP w P g (W.alloc o) :=
  h.step (KeepBut.of_below (below_alloc (Below.refl _ _) o) g none)
theorem KeptP.put {w W : World} {P : Nat → Prop} {g : Nat} (h : KeptP w P g W) {p : Addr} (hp : P p.block → w.heap.size ≤ p.block) (u : Value) : KeptP w P g (W.setCell p u) :=
  ⟨by simpa [World.setCell] using h.size, fun i h1 h2 h3 => (Below.heap_setCell W p u i (by rintro rfl; have := hp h1; omega)).trans (h.block i h1 h2 h3)⟩
theorem TrP.stays {w W : World} {P : Nat → Prop} {g : Nat} {ex : Ex} {cs : List Value} {gc : Array Value} {gt : TypeId} (h : TrP w P ex cs) (hk : KeptP w P g W) (hg : w.heap[g]? = some (.cells gc gt (0, 0))) (ht : gt ≠ 63) : TrP W P ex cs :=
  TrP.keep (fun k _ hl hc => hk.block k hl (blk_lt hc) (fun e => blk_ne (e ▸ hg) hc ht rfl)) ex cs h
theorem Rests.grown {w0 w W W' : World} {g : Nat} {b : Bs} {t : Tok} (h : Rests w0 w W g b t) (hb : Below W.heap.size W W') : Rests w0 w W' g b t :=
  ⟨h.rd.keep hb, h.ok, below_then h.below h.below.size hb, KeepBut.trans h.keep (KeepBut.of_below hb g none) (.inl rfl), h.lt, h.ge⟩

/-- Where the loop of bin stands: so much fuel is left, the tree so far lies in block be, the result's block is bare. -/
structure BinLoop (w0 w : World) (g be : Nat) (b : Bs) (least : Nat) (r : Res Ex) (k : Nat) (wr : World) : Prop where
  made : ∃ ex t s0 n1 s2 n3 n4 A n c, loop b k least ex t = r ∧ Rests w0 w wr g b t ∧ wr.heap[be]? = some (.cells #[.string s0, .int .i64 n1, .string s2, .int .i64 n3, .int .i64 n4, .slice A n c] 63 (0, 0)) ∧
    TrP wr (fun k => w.heap.size < k ∧ k ≠ be) ex [.string s0, .int .i64 n1, .string s2, .int .i64 n3, .int .i64 n4, .slice A n c]
  res : wr.heap[w.heap.size]? = some (.cells #[.string ⟨#[]⟩, .int .i64 0, .string ⟨#[]⟩, .int .i64 0, .int .i64 0, .slice none 0 0] 63 (0, 0))

set_option maxHeartbeats 4000000 in
set_option maxRecDepth 100000 in
theorem bin_calls (E : Nat → Addr) (w0 : World) (b : Bs) (f : Nat) (hE : Env E w0) (hlen : b.length ≤ 1024) (ihO : OperandAt E w0 b f) (ihB : ∀ k, k < f → BinAt E w0 b k) (g : Nat) (w : World) (t : Tok) (r : Res Ex) (hI : Rests w0 w w g b t)
    (least : Nat) (li : Int) (hli : li = (least : Int)) (hle : least ≤ 11) (hr : bin b (f + 1) least t = r) (hro : r ≠ .out) :
    Calls Tryz.prog 99 #[.pointer (some ⟨g, 0, none⟩), .int .i64 li] w (PPost E w0 w g b r) := by
  have HI := Aside0.mk hI
  have HE := Aside0.mk hE
  have hglt := hI.lt
  obtain ⟨A, c, hg, hge, hc, hC⟩ := hI.rd
  have hk1 : w.cell? ⟨g, 1, none⟩ = some (.string (mk t.op)) := (blk_cell hg 1).trans rfl
  have hk2 : w.cell? ⟨g, 2, none⟩ = some (.int .i64 (t.pos : Int)) := (blk_cell hg 2).trans rfl
  have hk3 : w.cell? ⟨g, 3, none⟩ = some (.int .i64 (t.fin : Int)) := (blk_cell hg 3).trans rfl
  have hk4 : w.cell? ⟨g, 4, none⟩ = some (.int .i64 (t.num : Int)) := (blk_cell hg 4).trans rfl
  have hk5 : w.cell? ⟨g, 5, none⟩ = some (.bool t.over) := (blk_cell hg 5).trans rfl
  have hk6 : w.cell? ⟨g, 6, none⟩ = some (.string (mk t.name)) := (blk_cell hg 6).trans rfl
  clear hg hC hE hI
  subst hli
  have HR := Aside0.mk (show ((operand b f t).bind fun e t1 => loop b f least e t1) = r from by rw [← hr, bin])
  have IHO := Aside0.mk ihO
  have IHB := Aside0.mk ihB
  have HS := Aside0.mk (Rests.self (HI.out.alloc (.cells #[.string ⟨#[]⟩, .int .i64 0, .string ⟨#[]⟩, .int .i64 0, .int .i64 0, .slice none 0 0] 63)))
  clear ihO ihB hr
  cases hx : operand b f t with
  | out => exact absurd HR.out (by rw [hx]; exact fun h => hro h.symm)
  | err c p =>
    obtain rfl : r = .err c p := by rw [← HR.out, hx]; rfl
    have HCl := Aside0.mk (fun W h1 => IHO.out g W _ _ h1 hx (by simp))
    clear hx hro HR
    go_enter Tryz.func99, Tryz.ntmps99
    go_wp2_with fail
    with_reducible refine (HCl.out _ HS.out).mono ?_
    rintro e w2 ⟨v, rfl, hv, hb⟩
    go_wp2_with fail
    exact ⟨rfl, v, rfl, hv, hb⟩
  | ok e1 t1 =>
    have HCl := Aside0.mk (fun W h1 => IHO.out g W _ _ h1 hx (by simp))
    replace HR : Aside0 (loop b f least e1 t1 = r) := ⟨by rw [← HR.out, hx]; rfl⟩
    clear hx
    go_enter Tryz.func99, Tryz.ntmps99
    go_wp2_with fail
    with_reducible refine (HCl.out _ HS.out).mono ?_
    rintro e w2 ⟨⟨s10, n11, s12, n13, n14, A1, l1, c1, rfl, hTr⟩, hI2⟩
    have hK2 := hI2.keep
    have hr2 : w2.heap[w.heap.size]? = _ := hK2.blk (heap_new rfl _) (by omega) (by simp)
    have hlt2 := blk_lt hr2
    have HL := Aside0.mk (BinLoop.mk (w0 := w0) (w := w) (g := g) (be := w2.heap.size) (least := least) (r := r) (k := f) (wr := w2.alloc (.cells #[.string s10, .int .i64 n11, .string s12, .int .i64 n13, .int .i64 n14, .slice A1 l1 c1] 63)) ⟨e1, t1, s10, n11, s12, n13, n14, A1, l1, c1, HR.out, (Rests.trans (HI.out.alloc _) hI2).alloc _, heap_new rfl _, TrP.below (TrP.of (by intro k h1 h2; simp at h1; constructor <;> omega) _ _ hTr) (below_alloc (Below.refl _ _) _)⟩ (blk_alloc hr2 _))
    clear hTr hI2 hK2 hr2
    go_wp2_with fail
    go_loopg [6, 7] f (fun gk v6 v7 wr => gk ≤ f ∧ Aside0 (BinLoop w0 w g w2.heap.size b least r gk wr))
    case atStart => exact ⟨Nat.le_refl _, HL⟩
    case round =>
      obtain ⟨hgk, HB⟩ := hrel
      clear HL
      obtain ⟨⟨ex, tt, s20, n21, s22, n23, n24, A2, l2, c2, hloop, hRr, hbe, hTP⟩, hres⟩ := HB.out
      cases gk with
      | zero => exact absurd hloop.symm (by rw [loop]; exact hro)
      | succ k =>
      rw [loop] at hloop
      have HLO := Aside0.mk hloop
      have hop1 := hRr.rd.op
      have hcg := hRr.rd.lt
      have HRr := Aside0.mk hRr
      have HRS := Aside0.mk hres
      have HBE := Aside0.mk hbe
      have HTP := Aside0.mk hTP
      have hltb := blk_lt hbe
      have hltr := blk_lt hres
      clear hloop hRr hbe hTP hres HB
      go_wp2_with fail
      with_reducible refine (strength_calls E tt.op wr (HE.out.below HRr.out.below)).mono ?_
      rintro e w1 ⟨rfl, hb1⟩
      have hs1 := hb1.size
      have hb1e : w1.heap[w2.heap.size]? = _ := (hb1.block _ hltb).trans HBE.out
      have hb1r : w1.heap[w.heap.size]? = _ := (hb1.block _ hltr).trans HRS.out
      have ce0 : w1.cell? ⟨w2.heap.size, 0, none⟩ = some (.string s20) := (blk_cell hb1e 0).trans rfl; have ce1 : w1.cell? ⟨w2.heap.size, 1, none⟩ = some (.int .i64 n21) := (blk_cell hb1e 1).trans rfl; have ce2 : w1.cell? ⟨w2.heap.size, 2, none⟩ = some (.string s22) := (blk_cell hb1e 2).trans rfl; have ce3 : w1.cell? ⟨w2.heap.size, 3, none⟩ = some (.int .i64 n23) := (blk_cell hb1e 3).trans rfl; have ce4 : w1.cell? ⟨w2.heap.size, 4, none⟩ = some (.int .i64 n24) := (blk_cell hb1e 4).trans rfl; have ce5 : w1.cell? ⟨w2.heap.size, 5, none⟩ = some (.slice A2 l2 c2) := (blk_cell hb1e 5).trans rfl
      have hd0 : w1.cell? ⟨w.heap.size, 0, none⟩ = some (.string ⟨#[]⟩) := (blk_cell hb1r 0).trans rfl; have hd1 : w1.cell? ⟨w.heap.size, 1, none⟩ = some (.int .i64 0) := (blk_cell hb1r 1).trans rfl; have hd2 : w1.cell? ⟨w.heap.size, 2, none⟩ = some (.string ⟨#[]⟩) := (blk_cell hb1r 2).trans rfl; have hd3 : w1.cell? ⟨w.heap.size, 3, none⟩ = some (.int .i64 0) := (blk_cell hb1r 3).trans rfl; have hd4 : w1.cell? ⟨w.heap.size, 4, none⟩ = some (.int .i64 0) := (blk_cell hb1r 4).trans rfl; have hd5 : w1.cell? ⟨w.heap.size, 5, none⟩ = some (.slice none 0 0) := (blk_cell hb1r 5).trans rfl; have hf0 := blk_frozen hb1r 0; have hf1 := blk_frozen hb1r 1; have hf2 := blk_frozen hb1r 2; have hf3 := blk_frozen hb1r 3; have hf4 := blk_frozen hb1r 4; have hf5 := blk_frozen hb1r 5
      have HR1 := Aside0.mk (Rests.grown HRr.out hb1)
      have HT1 := Aside0.mk (TrP.below HTP.out hb1)
      have HB1e := Aside0.mk hb1e
      have HB1r := Aside0.mk hb1r
      have hq1 := HR1.out.rd.op
      have hq2 := HR1.out.rd.pos
      have hg1 := HR1.out.rd.lt
      have hsl := strength_le tt.op
      clear hb1 hb1e hb1r
      by_cases hs : strength tt.op < least + 1
      · obtain rfl : r = .ok ex tt := by rw [← HLO.out, if_pos hs]
        have hd : decide ((strength tt.op : Int) - 1 < (least : Int)) = true := by simp; omega
        clear HLO hs
        go_wp2_with fail
        refine ret_gen fun W hW => ?_
        have hRes := (congrArg (fun x : World => x.heap[w.heap.size]?) hW).trans (blk_six HB1r.out _ _ _ _ _ _)
        have hRW : Rests w0 w W g b tt := by rw [hW]; exact (by repeat (first | (with_reducible exact HR1.out) | (with_reducible apply Rests.drewN) | (with_reducible apply Rests.drew) | (with_reducible apply Rests.alloc) | (with_reducible refine Rests.put ?_ (by first | (simp; done) | (simp; omega)) _)))
        have hTW := TrP.under (w' := W) (r := w.heap.size) HT1.out (by rw [hW]; repeat (first | (with_reducible exact KeepBut.refl _ _ _) | (with_reducible apply KeepBut.set_))) (fun k hk e => by rw [e] at hk; exact absurd hk.1 (Nat.lt_irrefl _))
        have hq0 := (blk_cell hRes 0).trans rfl; have hq1 := (blk_cell hRes 1).trans rfl; have hq2 := (blk_cell hRes 2).trans rfl; have hq3 := (blk_cell hRes 3).trans rfl; have hq4 := (blk_cell hRes 4).trans rfl; have hq5 := (blk_cell hRes 5).trans rfl
        clear hW
        refine bodyPost_ret (v := .agg #[.string s20, .int .i64 n21, .string s22, .int .i64 n23, .int .i64 n24, .slice A2 l2 c2]) (by simp [results, Tryz.results99, go_sem, hq0, hq1, hq2, hq3, hq4, hq5]; try rfl) rfl ⟨⟨_, _, _, _, _, _, _, _, rfl, TrP.tr (fun k hk => Nat.le_of_lt hk.1) _ _ hTW⟩, hRW⟩
      · have HLP : Aside0 (((bin b k (strength tt.op) (next b tt.fin)).bind fun kk t' => loop b k least (.bin tt.op tt.pos ex kk) t') = r) := ⟨by rw [← HLO.out, if_neg hs]⟩
        have hd : decide ((strength tt.op : Int) - 1 < (least : Int)) = false := by simp; omega
        clear HLO hs hd0 hf0 ce0 hd1 hf1 ce1 hd2 hf2 ce2 hd3 hf3 ce3 hd4 hf4 ce4 hd5 hf5 ce5
        go_wp2_with fail
        go_region_held3 (fun W => W.cell? ⟨g, 1, none⟩ = some (.string (mk tt.op)) ∧ W.cell? ⟨g, 2, none⟩ = some (.int .i64 (tt.pos : Int))) (go_keep) (fail)
        rename_i hHeld
        clear hHeld
        go_wp2_with fail
        with_reducible refine (pass_rests b tt g w0 w _ (by repeat (first | (with_reducible exact HR1.out) | (with_reducible apply Rests.drewN) | (with_reducible apply Rests.drew) | (with_reducible apply Rests.alloc) | (with_reducible refine Rests.put ?_ (by first | (simp; done) | (simp; omega)) _))) hlen).mono ?_
        rintro e w3 ⟨rfl, hI3, hK3⟩
        have hKU : KeepBut w1 w3 g none := KeepBut.trans (by repeat (first | (with_reducible exact KeepBut.refl _ _ _) | (with_reducible apply KeepBut.set_) | (with_reducible apply keep_alloc) | (with_reducible apply keep_drewN) | (with_reducible apply keep_drew))) hK3 (.inl rfl)
        have hbe3 : w3.heap[w2.heap.size]? = _ := hKU.blk HB1e.out (by omega) (by simp)
        have hr3 : w3.heap[w.heap.size]? = _ := hKU.blk HB1r.out (by omega) (by simp)
        have hbo3 : w3.heap[w1.heap.size]? = _ := hK3.blk (heap_at (by simp) _) (by omega) (by simp)
        have ce0 : w3.cell? ⟨w2.heap.size, 0, none⟩ = some (.string s20) := (blk_cell hbe3 0).trans rfl; have ce1 : w3.cell? ⟨w2.heap.size, 1, none⟩ = some (.int .i64 n21) := (blk_cell hbe3 1).trans rfl; have ce2 : w3.cell? ⟨w2.heap.size, 2, none⟩ = some (.string s22) := (blk_cell hbe3 2).trans rfl; have ce3 : w3.cell? ⟨w2.heap.size, 3, none⟩ = some (.int .i64 n23) := (blk_cell hbe3 3).trans rfl; have ce4 : w3.cell? ⟨w2.heap.size, 4, none⟩ = some (.int .i64 n24) := (blk_cell hbe3 4).trans rfl; have ce5 : w3.cell? ⟨w2.heap.size, 5, none⟩ = some (.slice A2 l2 c2) := (blk_cell hbe3 5).trans rfl
        have HR3 := Aside0.mk hI3
        have HS3 := Aside0.mk hI3.drew.self
        have HB3e := Aside0.mk hbe3
        have HB3r := Aside0.mk hr3
        have HB3o := Aside0.mk hbo3
        have hlt3 := blk_lt hbo3
        have HK3 := Aside0.mk (KeptP.step (KeptP.refl w1 (fun k => w.heap.size < k ∧ k ≠ w2.heap.size) g) hKU)
        clear hI3 hK3 hKU hbe3 hr3 hbo3
        cases hy : bin b k (strength tt.op) (next b tt.fin) with
        | out => exact absurd HLP.out (by rw [hy]; exact fun h => hro h.symm)
        | err c p =>
          obtain rfl : r = .err c p := by rw [← HLP.out, hy]; rfl
          have HCl := Aside0.mk (fun W li (hl : li = (strength tt.op : Int)) h1 => IHB.out k (by omega) g W _ _ (strength tt.op) li hl (by omega) h1 hy (by simp))
          clear hy hro HLP
          go_wp2_with fail
          go_region_dies
          all_goals (go_at_call 99; ((with_reducible refine (HCl.out _ _ (IntWalk.i64_in _ (by omega)) HS3.out).mono ?_); rintro e w7 ⟨v, rfl, hv, hb⟩; exact ⟨rfl, v, rfl, hv, hb⟩))
        | ok e3 t3 =>
          have HLQ : Aside0 (loop b k least (.bin tt.op tt.pos ex e3) t3 = r) := ⟨by rw [← HLP.out, hy]; rfl⟩
          have HCl := Aside0.mk (fun W li (hl : li = (strength tt.op : Int)) h1 => IHB.out k (by omega) g W _ _ (strength tt.op) li hl (by omega) h1 hy (by simp))
          clear hy HLP
          go_wp2_with fail
          go_region_held3 (fun W => W.cell? ⟨w2.heap.size, 0, none⟩ = some (.string s20) ∧ W.cell? ⟨w2.heap.size, 1, none⟩ = some (.int .i64 n21) ∧ W.cell? ⟨w2.heap.size, 2, none⟩ = some (.string s22) ∧ W.cell? ⟨w2.heap.size, 3, none⟩ = some (.int .i64 n23) ∧ W.cell? ⟨w2.heap.size, 4, none⟩ = some (.int .i64 n24) ∧ W.cell? ⟨w2.heap.size, 5, none⟩ = some (.slice A2 l2 c2)) (first | (with_reducible exact HX.out) | go_keep)
            ((go_at_call 99; ((with_reducible refine (HCl.out _ _ (IntWalk.i64_in _ (by omega)) HS3.out).mono ?_); rintro e w4 ⟨⟨s30, n31, s32, n33, n34, A3, l3, c3, rfl, hTr⟩, hI2⟩; have hK4 := KeepBut.drewL hI2.keep; have hbe4 : w4.heap[w2.heap.size]? = _ := hK4.blk HB3e.out (by omega) (by simp); have hbo4 : w4.heap[w1.heap.size]? = _ := hK4.blk HB3o.out (by omega) (by simp); have hr4 : w4.heap[w.heap.size]? = _ := hK4.blk HB3r.out (by omega) (by simp); have xe0 : w4.cell? ⟨w2.heap.size, 0, none⟩ = some (.string s20) := (blk_cell hbe4 0).trans rfl; have xe1 : w4.cell? ⟨w2.heap.size, 1, none⟩ = some (.int .i64 n21) := (blk_cell hbe4 1).trans rfl; have xe2 : w4.cell? ⟨w2.heap.size, 2, none⟩ = some (.string s22) := (blk_cell hbe4 2).trans rfl; have xe3 : w4.cell? ⟨w2.heap.size, 3, none⟩ = some (.int .i64 n23) := (blk_cell hbe4 3).trans rfl; have xe4 : w4.cell? ⟨w2.heap.size, 4, none⟩ = some (.int .i64 n24) := (blk_cell hbe4 4).trans rfl; have xe5 : w4.cell? ⟨w2.heap.size, 5, none⟩ = some (.slice A2 l2 c2) := (blk_cell hbe4 5).trans rfl; have xo0 : w4.cell? ⟨w1.heap.size, 0, none⟩ = some (.string (mk tt.op)) := (blk_cell hbo4 0).trans rfl; have xo1 : w4.cell? ⟨w1.heap.size, 1, none⟩ = some (.int .i64 0) := (blk_cell hbo4 1).trans rfl; have xo2 : w4.cell? ⟨w1.heap.size, 2, none⟩ = some (.string ⟨#[]⟩) := (blk_cell hbo4 2).trans rfl; have xo3 : w4.cell? ⟨w1.heap.size, 3, none⟩ = some (.int .i64 (tt.pos : Int)) := (blk_cell hbo4 3).trans rfl; have xo4 : w4.cell? ⟨w1.heap.size, 4, none⟩ = some (.int .i64 0) := (blk_cell hbo4 4).trans rfl; have xo5 : w4.cell? ⟨w1.heap.size, 5, none⟩ = some (.slice none 0 0) := (blk_cell hbo4 5).trans rfl; have xf0 := blk_frozen hbe4 0; have xf1 := blk_frozen hbe4 1; have xf2 := blk_frozen hbe4 2; have xf3 := blk_frozen hbe4 3; have xf4 := blk_frozen hbe4 4; have xf5 := blk_frozen hbe4 5; have HX := Aside0.mk (And.intro xe0 (And.intro xe1 (And.intro xe2 (And.intro xe3 (And.intro xe4 xe5))))); have hf5o := blk_frozen hbo4 5; have HB4r := Aside0.mk hr4; have HB4e := Aside0.mk hbe4; have hlte4 := blk_lt hbe4; have hlto4 := blk_lt hbo4; have hltr4 := blk_lt hr4; have hne1 : ¬ w1.heap.size = w2.heap.size := (by omega); have hne2 : ¬ w2.heap.size = w1.heap.size := (by omega); have HTn := Aside0.mk hTr; have HK4 := Aside0.mk (KeptP.step HK3.out hK4); have HGB := Aside0.mk hI2.rd.blk; have HR4 := Aside0.mk (Rests.trans HR3.out.drew hI2); clear hTr hI2 hK4 hbe4 hbo4 hr4)))
          rename_i hHeld
          clear hHeld
          go_wp2_with fail
          go_roundg k
          case measure => omega
          case rel =>
            refine ⟨by omega, ⟨⟨⟨.bin tt.op tt.pos ex e3, t3, mk tt.op, 0, ⟨#[]⟩, tt.pos, 0, some ⟨w4.heap.size, 0, none⟩, 2, 2, HLQ.out, (by repeat (first | (with_reducible exact HR4.out) | (with_reducible apply Rests.drewN) | (with_reducible apply Rests.drew) | (with_reducible apply Rests.alloc) | (with_reducible refine Rests.put ?_ (by first | (simp; done) | (simp; omega)) _))), ?_, ⟨w4.heap.size, 2, [.string s20, .int .i64 n21, .string s22, .int .i64 n23, .int .i64 n24, .slice A2 l2 c2], [.string s30, .int .i64 n31, .string s32, .int .i64 n33, .int .i64 n34, .slice A3 l3 c3], [], ⟨by omega, by omega⟩, by omega, heap_new (w := w4) (by simp) _, rfl, ?_, ?_⟩⟩, ?_⟩⟩⟩
            · exact blk_alloc (blk_six ((Below.heap_setCell w4 ⟨w1.heap.size, 5, none⟩ _ w2.heap.size (by simp; omega)).trans HB4e.out) _ _ _ _ _ _) _
            · exact TrP.stays HT1.out (by repeat (first | (with_reducible exact HK4.out) | (with_reducible apply KeptP.alloc) | (with_reducible refine KeptP.put ?_ (by first | (simp; done) | (simp; omega)) _))) (Exists.choose_spec HR1.out.rd.blk) (by simp)
            · exact TrP.of (lo := w3.heap.size) (by intro k h1 h2; constructor <;> omega) _ _ (Tr.stays HTn.out (by repeat (first | (with_reducible exact Kept.refl _ _ _) | (with_reducible apply Kept.alloc) | (with_reducible refine Kept.put ?_ (by first | (simp; done) | (simp; omega)) _))) (Exists.choose_spec HGB.out) (by simp))
            · exact (KeptP.block (P := fun k => k = w.heap.size) (g := g) (by repeat (first | (with_reducible exact KeptP.refl _ _ _) | (with_reducible apply KeptP.alloc) | (with_reducible refine KeptP.put ?_ (by first | (simp; done) | (simp; omega)) _))) _ rfl hltr4 (by omega)).trans HB4r.out
end Go.Proofs.YtjllmamblkejjaaGreatDoor
end

/- What the reader's functions come to, together. No conditions. -/
section
set_option linter.unusedVariables false
namespace Go.Proofs.YtjllmamblkejjaaGreatDoor
open Go.RowKit Go.Proofs.YtjllmamblkejjaaGreatDoorW.PrintWords Go.Proofs.YtjllmamblkejjaaGreatDoorW.PrintLast Go.Proofs.YtjllmamblkejjaaGreatDoorW.PrintMore
open PQA Sp
theorem all_calls (E : Nat → Addr) (w0 : World) (b : Bs) (hE : Env E w0) (hlen : b.length ≤ 1024) (n : Nat) : ∀ f, f ≤ n → ExprAt E w0 b f ∧ CondAt E w0 b f ∧ OperandAt E w0 b f ∧ BinAt E w0 b f := by
  induction n with
  | zero =>
    intro f hf
    obtain rfl : f = 0 := by omega
    refine ⟨?_, ?_, operand_zero E w0 b, ?_⟩
    · intro g w t r hI hr hro
      exact absurd hr.symm (by rw [expr]; exact hro)
    · intro g w t r hI hr hro
      exact absurd hr.symm (by rw [Sp.cond]; exact hro)
    · intro g w t r least li hli hle hI hr hro
      exact absurd hr.symm (by rw [bin]; exact hro)
  | succ n ih =>
    intro f hf
    rcases Nat.lt_or_ge n f with h | h
    · obtain rfl : f = n + 1 := by omega
      obtain ⟨hE1, hC1, hO1, hB1⟩ := ih n (Nat.le_refl n)
      refine ⟨expr_calls E w0 b n hE hlen hC1 hE1, ?_, operand_calls E w0 b n hE hlen hO1 hE1, ?_⟩
      · intro g w t r hI hr hro
        exact cond_calls_ E w0 b n hE hlen hB1 hE1 hC1 g w t r hI hr hro
      · intro g w t r least li hli hle hI hr hro
        exact bin_calls E w0 b n hE hlen hO1 (fun k hk => (ih k (by omega)).2.2.2) g w t r hI least li hli hle hr hro
    · exact ih f h
theorem expr_at (E : Nat → Addr) (w0 : World) (b : Bs) (hE : Env E w0) (hlen : b.length ≤ 1024) (f : Nat) : ExprAt E w0 b f := (all_calls E w0 b hE hlen f f (Nat.le_refl f)).1
end Go.Proofs.YtjllmamblkejjaaGreatDoor
end

/- What arith.Parse comes to. No conditions. -/
section
set_option linter.unusedVariables false
set_option linter.unusedSimpArgs false
namespace Go.Proofs.YtjllmamblkejjaaGreatDoor
open Go.RowKit Go.Proofs.YtjllmamblkejjaaGreatDoorW.PrintWords Go.Proofs.YtjllmamblkejjaaGreatDoorW.PrintLast Go.Proofs.YtjllmamblkejjaaGreatDoorW.PrintMore
open PQA Sp

set_option maxHeartbeats 4000000 in
set_option maxRecDepth 100000 in
theorem catch_idle (pe pr : Addr) (w : World) :
    CallsD Tryz.prog 37 #[.pointer (some pe), .pointer (some pr)] .returning w fun e u' w' => e = .returned (.tuple #[]) ∧ u' = .returning ∧ w' = w := by
  refine callsD_of_wpS Tryz.func37 rfl fun c₀ cs hu => ?_
  apply wpS_seq
  apply wpS_region
  simp [wpOpsS, go_sem, recoverD, hu, Tryz.ntmps37, Exit.thenS]
  apply wpS_seq
  apply wpS_region
  simp [wpOpsS, go_sem, Exit.thenS]
  refine wpS_cond (t := false) (by simp [Act.eval, Array.replicate]) ?_
  simp only [Bool.false_eq_true, if_false]
  refine wpS_of_wp (wp_skip ?_)
  cases c₀
  simp_all [bodyPostS, results, Tryz.results37]

theorem wpS_tmps {P : Program} {c : Code} {Q : Exit → Act → List Frame → World → Prop} {t t' : Array Value} {d : List Deferred} {cs : List Frame} {w : World} (h : t' = t) (k : c.wpS P Q ⟨t, d⟩ cs w) : c.wpS P Q ⟨t', d⟩ cs w := by subst h; exact k
theorem wp_tmps {P : Program} {c : Code} {Q : Exit → Act → World → Prop} {t t' : Array Value} {d : List Deferred} {w : World} (h : t' = t) (k : c.wp P Q ⟨t, d⟩ w) : c.wp P Q ⟨t', d⟩ w := by subst h; exact k
theorem fault_lang (c p l : Value) (W : World) : (Instr.field 47 (.agg #[c, p, l]) 2).run Tryz.prog W = .ok l W := by kernel_rfl
theorem frame_two (a b : Value) : #[a, b] ++ Array.replicate (23 - #[a, b].size) undef = #[a, b, undef, undef, undef, undef, undef, undef, undef, undef, undef, undef, undef, undef, undef, undef, undef, undef, undef, undef, undef, undef, undef] := by
  apply Array.toList_inj.mp
  rw [Array.toList_append, Array.toList_replicate]
  rfl
theorem isError (v : Value) (w : World) : (Instr.typeAssert (.iface 99 v) 20 27 true).run Tryz.prog w = .ok (.tuple #[.iface 99 v, .bool true]) w := run_typeAssert_hasB Tryz.underlying27 (by kernel_rfl) v 20 w
set_option maxHeartbeats 4000000 in
set_option maxRecDepth 100000 in
theorem catch_panicking (E : Nat → Addr) (e0 e1 : Nat) (v : Value) (code pos : Nat) (older : List PanicEntry) (w : World) (hE : Env E w) (hv : ErrV E w v code pos 1) (h1 : 1 ≤ code) (h2 : code ≤ 21)
    (hb0 : w.heap[e0]? = some (.cells #[.pointer none] 25 (0, 0))) (hb1 : w.heap[e1]? = some (.cells #[.nilIface] 27 (0, 0))) :
    CallsD Tryz.prog 37 #[.pointer (some ⟨e0, 0, none⟩), .pointer (some ⟨e1, 0, none⟩)] (.panicking ({ v := v, recovered := false } :: older)) w fun e u' w' =>
      e = .returned (.tuple #[]) ∧ u' = .panicking ({ v := v, recovered := true } :: older) ∧ ∃ w1, Below w.heap.size w w1 ∧ w' = (w1.setCell ⟨e0, 0, none⟩ (.pointer none)).setCell ⟨e1, 0, none⟩ v := by
  have hv' := hv
  obtain ⟨s, p, rfl, hs, hp⟩ := hv'
  have HV := Aside0.mk hv
  have HE := Aside0.mk hE
  have HB0 := Aside0.mk hb0
  have HB1 := Aside0.mk hb1
  have hne := blk_ne hb0 hb1 (by decide)
  clear hv hE hs hp hb0 hb1
  have hisE := isError (.pointer (some ⟨s, 0, none⟩))
  have hfl := fault_lang (.int .i64 (code : Int)) (.int .i64 (pos : Int)) (.int .i64 1)
  refine callsD_of_wpS Tryz.func37 rfl fun c₀ cs hu => ?_
  rw [Tryz.ntmps37]
  rw [frame_two]
  apply wpS_seq
  apply wpS_region
  simp [wpOpsS, go_sem, recoverD, hu, Exit.thenS]
  apply wpS_seq
  apply wpS_region
  simp [wpOpsS, go_sem, Exit.thenS]
  refine wpS_cond (t := true) (by simp [Act.eval, Array.replicate]) ?_
  simp only [if_true]
  refine wpS_of_wp ?_
  go_wp2_with fail
  with_reducible refine (tell_calls E w HE.out _ code pos 1 HV.out h1 h2).mono ?_
  rintro e w1 ⟨rfl, hb⟩
  have hb0 := (hb.block _ (blk_lt HB0.out)).trans HB0.out
  have hb1 := (hb.block _ (blk_lt HB1.out)).trans HB1.out
  have hc0 : w1.cell? ⟨e0, 0, none⟩ = some (.pointer none) := (blk_cell hb0 0).trans rfl
  have hc1 : w1.cell? ⟨e1, 0, none⟩ = some .nilIface := (blk_cell hb1 0).trans rfl
  have hf0 := blk_frozen hb0 0
  have hf1 := blk_frozen hb1 0
  have HB := Aside0.mk hb
  clear hb hb0 hb1
  go_wp2_with fail
  simp [bodyPostS, results, Tryz.results37]
  exact ⟨w1, HB.out, rfl⟩

/-- What Parse hands back: the tree in memory of its own, or the error. -/
def ParsePost (E : Nat → Addr) (w : World) : Res Ex → Ending → World → Prop
  | .ok ex _, e, w' => ∃ (q : Nat) (s0 : ByteArray) (n1 : Int) (s2 : ByteArray) (n3 n4 : Int) (A : Option Addr) (n c : Nat), e = .returned (.tuple #[.pointer (some ⟨q, 0, none⟩), .nilIface]) ∧ w.heap.size ≤ q ∧
      w'.heap[q]? = some (.cells #[.string s0, .int .i64 n1, .string s2, .int .i64 n3, .int .i64 n4, .slice A n c] 80 (0, 0)) ∧ Tr w' w.heap.size ex [.string s0, .int .i64 n1, .string s2, .int .i64 n3, .int .i64 n4, .slice A n c] ∧ Below w.heap.size w w'
  | .err c p, e, w' => ∃ v, e = .returned (.tuple #[.pointer none, v]) ∧ ErrV E w' v c p 1 ∧ Below w.heap.size w w'
  | .out, _, _ => False
theorem ErrV.put {E : Nat → Addr} {w : World} {v : Value} {c p l : Nat} (h : ErrV E w v c p l) {r : Nat} {gc : Array Value} {gt : TypeId} (hg : w.heap[r]? = some (.cells gc gt (0, 0))) (h1 : 102 ≠ gt) (h2 : 98 ≠ gt) (o : Nat) (u : Value) : ErrV E (w.setCell ⟨r, o, none⟩ u) v c p l := by
  obtain ⟨s, q, hv, hs, hq⟩ := h
  exact ⟨s, q, hv, (Below.heap_setCell w ⟨r, o, none⟩ u s (blk_ne hs hg h1)).trans hs, (Below.heap_setCell w ⟨r, o, none⟩ u q (blk_ne hq hg h2)).trans hq⟩
theorem retd_gen {P : Program} {fn : Func} {R : Ending → World → Prop} {x : Exit} {a : Act} {w : World} (h : ∀ W, W = w → bodyPostD P fn R x a W) : bodyPostD P fn R x a w := h w rfl
def tok0 : Tok := ⟨[], 0, 0, 0, false, []⟩
theorem rests0 (w : World) (b : Bs) (A : Option Addr) (c : Nat) (hr : Rb w A b) (hc : b.length ≤ c) : Rests ((w.alloc (.cells #[.pointer none] 25)).alloc (.cells #[.nilIface] 27)) (((w.alloc (.cells #[.pointer none] 25)).alloc (.cells #[.nilIface] 27)).alloc (.cells #[.slice A b.length c, .string ⟨#[]⟩, .int .i64 0, .int .i64 0, .int .i64 0, .bool false, .string ⟨#[]⟩] 77)) (((w.alloc (.cells #[.pointer none] 25)).alloc (.cells #[.nilIface] 27)).alloc (.cells #[.slice A b.length c, .string ⟨#[]⟩, .int .i64 0, .int .i64 0, .int .i64 0, .bool false, .string ⟨#[]⟩] 77)) (w.heap.size + 1 + 1) b tok0 :=
  ⟨⟨A, c, heap_at (by simp) _, by simp, hc, Kd.C_below hr (by repeat (first | (with_reducible exact Below.refl _ _) | (with_reducible apply below_alloc)))⟩, ⟨Nat.zero_le _, Nat.zero_le _, Nat.zero_le _⟩, by repeat (first | (with_reducible exact Below.refl _ _) | (with_reducible apply below_alloc)), KeepBut.refl _ _ _, by simp, by simp⟩

set_option maxHeartbeats 4000000 in
set_option maxRecDepth 100000 in
theorem parse_calls (E : Nat → Addr) (b : Bs) (A : Option Addr) (c : Nat) (w : World) (hE : Env E w) (hlen : b.length ≤ 1024) (hr : Rb w A b) (hc : b.length ≤ c) (f : Nat) (r : Res Ex) (hp : parse b f = r) (hro : r ≠ .out) (hco : ∀ c p, r = .err c p → 1 ≤ c ∧ c ≤ 21) :
    Calls Tryz.prog 10 #[.slice A b.length c] w (ParsePost E w r) := by
  have hmf : ∀ (fn : Fn) (first cap : Array Value) (w : World), (Instr.makeFunc fn first cap).run Tryz.prog w = .ok (.func fn first cap) w := fun _ _ _ _ => rfl
  have hl : decide ((b.length : Int) > 1024) = false := by simp; omega
  have hl2 : decide ((1024 : Int) < (b.length : Int)) = false := by simp; omega
  have HI0 := Aside0.mk (rests0 w b A c hr hc)
  have HE := Aside0.mk hE
  have HR := Aside0.mk (show ((expr b f (next b 0)).bind fun e t => if t.op = [] then .ok e t else bar t) = r from hp)
  have HCo := Aside0.mk hco
  have HX := Aside0.mk (expr_at E ((w.alloc (.cells #[.pointer none] 25)).alloc (.cells #[.nilIface] 27)) b (hE.below (by repeat (first | (with_reducible exact Below.refl _ _) | (with_reducible apply below_alloc)))) hlen f)
  have HE2 := Aside0.mk (hE.below (w' := ((w.alloc (.cells #[.pointer none] 25)).alloc (.cells #[.nilIface] 27))) (by repeat (first | (with_reducible exact Below.refl _ _) | (with_reducible apply below_alloc))))
  have HN0 := Aside0.mk (show (((w.alloc (.cells #[.pointer none] 25)).alloc (.cells #[.nilIface] 27))).heap[w.heap.size]? = some (.cells #[.pointer none] 25 (0, 0)) from blk_alloc (heap_new rfl _) _)
  have HN1 := Aside0.mk (show (((w.alloc (.cells #[.pointer none] 25)).alloc (.cells #[.nilIface] 27))).heap[w.heap.size + 1]? = some (.cells #[.nilIface] 27 (0, 0)) from heap_at (by simp) _)
  have HBW := Aside0.mk (show Below w.heap.size w ((w.alloc (.cells #[.pointer none] 25)).alloc (.cells #[.nilIface] 27)) from by repeat (first | (with_reducible exact Below.refl _ _) | (with_reducible apply below_alloc)))
  have hb0 : ((((w.alloc (.cells #[.pointer none] 25)).alloc (.cells #[.nilIface] 27)).alloc (.cells #[.slice A b.length c, .string ⟨#[]⟩, .int .i64 0, .int .i64 0, .int .i64 0, .bool false, .string ⟨#[]⟩] 77))).heap[w.heap.size]? = some (.cells #[.pointer none] 25 (0, 0)) := blk_alloc (blk_alloc (heap_new rfl _) _) _
  have hb1 : ((((w.alloc (.cells #[.pointer none] 25)).alloc (.cells #[.nilIface] 27)).alloc (.cells #[.slice A b.length c, .string ⟨#[]⟩, .int .i64 0, .int .i64 0, .int .i64 0, .bool false, .string ⟨#[]⟩] 77))).heap[w.heap.size + 1]? = some (.cells #[.nilIface] 27 (0, 0)) := blk_alloc (heap_at (by simp) _) _
  have HB0 := Aside0.mk hb0
  have HB1 := Aside0.mk hb1
  clear hr hE hp hco hb0 hb1
  go_enter_defers Tryz.func10, Tryz.ntmps10
  go_wp2_with fail
  with_reducible refine (pass_rests b tok0 _ _ _ _ HI0.out hlen).mono ?_
  rintro e w1 ⟨rfl, hI1, hK1⟩
  have hb0 := hK1.blk HB0.out (by omega) (by simp)
  have hb1 := hK1.blk HB1.out (by omega) (by simp)
  have HB10 := Aside0.mk hb0
  have HB11 := Aside0.mk hb1
  have hw1 := hI1.keep.1
  simp at hw1
  have HS1 := Aside0.mk hI1.self
  have HI1 := Aside0.mk hI1
  clear hI1 hK1 hb0 hb1
  cases hx : expr b f (next b 0) with
  | out => exact absurd HR.out (by rw [hx]; exact fun h => hro h.symm)
  | err c p =>
    obtain rfl : r = .err c p := by rw [← HR.out, hx]; rfl
    have HCl := Aside0.mk (fun W h1 => HX.out (w.heap.size + 1 + 1) W _ _ h1 hx (by simp))
    clear hx HR hro HX
    go_wp2_with fail
    with_reducible refine (HCl.out _ HS1.out).mono ?_
    rintro e w2 ⟨v, rfl, hv, hb⟩
    go_wp2_with fail
    refine leaves_cons (f := 37) (args := #[.pointer (some ⟨w.heap.size, 0, none⟩), .pointer (some ⟨w.heap.size + 1, 0, none⟩)]) (by simp) (by simp [go_sem]) ?_
    refine (catch_panicking E w.heap.size (w.heap.size + 1) v c p [] w2 (HE2.out.below hb) hv (HCo.out c p rfl).1 (HCo.out c p rfl).2 ((hb.block _ (by simp; omega)).trans HN0.out) ((hb.block _ (by simp)).trans HN1.out)).mono ?_
    rintro e u' w'' ⟨rfl, rfl, w3, hb3, rfl⟩
    have hq0 : w3.heap[w.heap.size]? = _ := (hb3.block _ (by have := hb.size; simp at this; omega)).trans ((hb.block _ (by simp; omega)).trans HN0.out)
    have hq1 : w3.heap[w.heap.size + 1]? = _ := (hb3.block _ (by have := hb.size; simp at this; omega)).trans ((hb.block _ (by simp)).trans HN1.out)
    have hc0 : w3.cell? ⟨w.heap.size, 0, none⟩ = some (.pointer none) := (blk_cell hq0 0).trans rfl
    have hc1 : w3.cell? ⟨w.heap.size + 1, 0, none⟩ = some .nilIface := (blk_cell hq1 0).trans rfl
    simp [Leaves, settle, results, Tryz.results10, go_sem, hc0, hc1]
    refine ⟨v, rfl, ((hv.below hb3).put hq0 (by decide) (by decide) 0 _).put ((Below.heap_setCell w3 ⟨w.heap.size, 0, none⟩ _ (w.heap.size + 1) (by simp)).trans hq1) (by decide) (by decide) 0 _, ?_⟩
    have hbw : Below w.heap.size w w3 := below_then (below_then HBW.out HBW.out.size hb) (by have := hb.size; simp at this; omega) hb3
    exact (hbw.setCell (Nat.le_refl _) _).setCell (Nat.le_succ _) _
  | ok e1 t1 =>
    have HR2 : Aside0 ((if t1.op = [] then .ok e1 t1 else bar t1) = r) := ⟨by rw [← HR.out, hx]; rfl⟩
    have HCl := Aside0.mk (fun W h1 => HX.out (w.heap.size + 1 + 1) W _ _ h1 hx (by simp))
    clear hx HR HX
    go_wp2_with fail
    with_reducible refine (HCl.out _ HS1.out).mono ?_
    rintro e w2 ⟨⟨s0, n1, s2, n3, n4, A2, n2, c2, rfl, hTr⟩, hI2⟩
    have hb0 := hI2.keep.blk HB10.out (by omega) (by simp)
    have hb1 := hI2.keep.blk HB11.out (by omega) (by simp)
    have ho1 := hI2.rd.op
    have hg2 := hI2.rd.lt
    have hc0 : w2.cell? ⟨w.heap.size, 0, none⟩ = some (.pointer none) := (blk_cell hb0 0).trans rfl
    have hc1 : w2.cell? ⟨w.heap.size + 1, 0, none⟩ = some .nilIface := (blk_cell hb1 0).trans rfl
    have hf0 := blk_frozen hb0 0
    have hf1 := blk_frozen hb1 0
    have hlt0 := blk_lt hb0
    have hlt1 := blk_lt hb1
    have HB20 := Aside0.mk hb0
    have HB21 := Aside0.mk hb1
    have HTr := Aside0.mk hTr
    have HI2 := Aside0.mk hI2
    clear hTr hI2 hb0 hb1
    by_cases hp : t1.op = []
    · obtain rfl : r = .ok e1 t1 := by rw [← HR2.out, if_pos hp]
      have hob := op_yes (v := []) hp
      clear HR2 hro hp
      go_wp2_with fail
      refine retd_gen fun W hW => ?_
      have hRes0 := (congrArg (fun x : World => x.heap[w.heap.size]?) hW).trans (blk_alloc (blk_alloc ((Below.heap_setCell _ ⟨w.heap.size + 1, 0, none⟩ _ w.heap.size (by simp)).trans (blk_set HB20.out 0 _)) _) _)
      have hRes1 := (congrArg (fun x : World => x.heap[w.heap.size + 1]?) hW).trans (blk_alloc (blk_alloc (blk_set ((Below.heap_setCell w2 ⟨w.heap.size, 0, none⟩ _ (w.heap.size + 1) (by simp)).trans HB21.out) 0 _) _) _)
      have hNew := (congrArg (fun x : World => x.heap[w2.heap.size + 1]?) hW).trans (heap_at (by simp) _)
      have hTW := Tr.stays HTr.out (W := W) (by rw [hW]; repeat (first | (with_reducible exact Kept.refl _ _ _) | (with_reducible apply Kept.alloc) | (with_reducible refine Kept.put ?_ (by first | (simp; done) | (simp; omega)) _))) (Exists.choose_spec HI2.out.rd.blk) (by simp)
      have hBW : Below w.heap.size w W := by
        rw [hW]
        refine below_alloc (below_alloc ?_ _) _
        exact ((below_then HBW.out HBW.out.size HI2.out.below).setCell (Nat.le_refl _) _).setCell (Nat.le_succ _) _
      have hq0 : W.cell? ⟨w.heap.size, 0, none⟩ = some (.pointer (some ⟨w2.heap.size + 1, 0, none⟩)) := (blk_cell hRes0 0).trans rfl
      have hq1 : W.cell? ⟨w.heap.size + 1, 0, none⟩ = some .nilIface := (blk_cell hRes1 0).trans rfl
      clear hW
      refine leaves_cons (f := 37) (args := #[.pointer (some ⟨w.heap.size, 0, none⟩), .pointer (some ⟨w.heap.size + 1, 0, none⟩)]) (by simp) (by simp [go_sem]) ?_
      refine (catch_idle _ _ _).mono ?_
      rintro e u' w'' ⟨rfl, rfl, rfl⟩
      simp [Leaves, settle, results, Tryz.results10, go_sem, hq0, hq1]
      exact ⟨w2.heap.size + 1, s0, n1, s2, n3, n4, A2, n2, c2, rfl, by omega, hNew, Tr.lo (by omega) _ _ hTW, hBW⟩
    · obtain ⟨c, p, hcp⟩ := bar_err t1
      obtain rfl : r = .err c p := by rw [← HR2.out, if_neg hp, hcp]
      have HC := Aside0.mk hcp
      have hob := op_no (v := []) hp
      clear HR2 hro hp hcp
      go_wp2_with fail
      with_reducible refine (bar_rests E _ b _ _ _ t1 _ _ HC.out HE2.out (Rests.alloc (Rests.trans HI1.out HI2.out) _)).mono ?_
      rintro e w4 ⟨v, rfl, hv, hb⟩
      go_wp2_with fail
      refine leaves_cons (f := 37) (args := #[.pointer (some ⟨w.heap.size, 0, none⟩), .pointer (some ⟨w.heap.size + 1, 0, none⟩)]) (by simp) (by simp [go_sem]) ?_
      refine (catch_panicking E w.heap.size (w.heap.size + 1) v c p [] w4 (HE2.out.below hb) hv (HCo.out c p rfl).1 (HCo.out c p rfl).2 ((hb.block _ (by simp; omega)).trans HN0.out) ((hb.block _ (by simp)).trans HN1.out)).mono ?_
      rintro e u' w'' ⟨rfl, rfl, w3, hb3, rfl⟩
      have hq0 : w3.heap[w.heap.size]? = _ := (hb3.block _ (by have := hb.size; simp at this; omega)).trans ((hb.block _ (by simp; omega)).trans HN0.out)
      have hq1 : w3.heap[w.heap.size + 1]? = _ := (hb3.block _ (by have := hb.size; simp at this; omega)).trans ((hb.block _ (by simp)).trans HN1.out)
      have hc0 : w3.cell? ⟨w.heap.size, 0, none⟩ = some (.pointer none) := (blk_cell hq0 0).trans rfl
      have hc1 : w3.cell? ⟨w.heap.size + 1, 0, none⟩ = some .nilIface := (blk_cell hq1 0).trans rfl
      simp [Leaves, settle, results, Tryz.results10, go_sem, hc0, hc1]
      refine ⟨v, rfl, ((hv.below hb3).put hq0 (by decide) (by decide) 0 _).put ((Below.heap_setCell w3 ⟨w.heap.size, 0, none⟩ _ (w.heap.size + 1) (by simp)).trans hq1) (by decide) (by decide) 0 _, ?_⟩
      have hbw : Below w.heap.size w w3 := below_then (below_then HBW.out HBW.out.size hb) (by have := hb.size; simp at this; omega) hb3
      exact (hbw.setCell (Nat.le_refl _) _).setCell (Nat.le_succ _) _
end Go.Proofs.YtjllmamblkejjaaGreatDoor
end

/- Plain law: the spec's parser comes to an end, and what its errors are. No conditions. -/
section
set_option linter.unusedVariables false
namespace Go.Proofs.YtjllmamblkejjaaGreatDoor
open Go.RowKit Go.Proofs.YtjllmamblkejjaaGreatDoorW.PrintWords
open PQA Sp

structure Sane (b : Bs) (t : Tok) : Prop where
  pos : t.pos ≤ b.length
  fin : t.op ≠ [] → t.op ≠ wNone → t.pos < t.fin ∧ t.fin ≤ b.length
/-- An end is come to: a value with a token from place a on, or an error of one of two codes. -/
structure Good (b : Bs) (a : Nat) (r : Res Ex) : Prop where
  out : r ≠ .out
  ok : ∀ e t', r = .ok e t' → Sane b t' ∧ a ≤ t'.pos
  err : ∀ c p, r = .err c p → (c = 3 ∨ c = 6) ∧ p ≤ b.length
theorem Good.bind {b : Bs} {a a' : Nat} {r : Res Ex} {f : Ex → Tok → Res Ex} (h : Good b a r) (k : ∀ e t', r = .ok e t' → Sane b t' → a ≤ t'.pos → Good b a' (f e t')) : Good b a' (r.bind f) := by
  cases r with
  | ok e t => exact k e t rfl (h.ok e t rfl).1 (h.ok e t rfl).2
  | err c p => exact ⟨by simp [Res.bind], by simp [Res.bind], fun c' p' e => h.err c' p' e⟩
  | out => exact absurd rfl h.out
theorem Good.bar {b : Bs} {t : Tok} (h : Sane b t) (a : Nat) : Good b a (bar t) := by
  refine ⟨by simp [Sp.bar], by simp [Sp.bar], fun c p e => ?_⟩
  injection e with e1 e2
  subst e1 e2
  exact ⟨by split <;> simp, h.pos⟩
theorem Good.val {b : Bs} {t : Tok} {a : Nat} (h : Sane b t) (ha : a ≤ t.pos) (e : Ex) : Good b a (.ok e t) := by
  refine ⟨by simp, fun e' t' he => ?_, by simp⟩
  injection he with h1 h2
  subst h2
  exact ⟨h, ha⟩
theorem tokAt_sane (b : Bs) (a : Nat) (ha : a ≤ b.length) : Sane b (tokAt (b.drop a) a) ∧ (tokAt (b.drop a) a).pos = a := by
  have hd : (b.drop a).length = b.length - a := List.length_drop
  unfold tokAt
  split
  · exact ⟨⟨ha, fun h => absurd rfl h⟩, rfl⟩
  · split
    · rename_i h
      have := const_le (b.drop a)
      exact ⟨⟨ha, fun _ _ => ⟨by simp only; omega, by simp only; omega⟩⟩, rfl⟩
    · split
      · rename_i h
        have := name_le (b.drop a)
        exact ⟨⟨ha, fun _ _ => ⟨by simp only; omega, by simp only; omega⟩⟩, rfl⟩
      · split
        · rename_i o ho
          have h1 := find_pre _ _ _ ho
          refine ⟨⟨ha, fun h2 _ => ?_⟩, rfl⟩
          have : 0 < o.length := List.length_pos_iff.2 h2
          exact ⟨by simp only; omega, by simp only; omega⟩
        · exact ⟨⟨ha, fun _ h => absurd rfl h⟩, rfl⟩
theorem next_sane (b : Bs) (a : Nat) (ha : a ≤ b.length) : Sane b (next b a) ∧ a ≤ (next b a).pos := by
  have h := skip_le (b.drop a)
  rw [List.length_drop] at h
  have := tokAt_sane b (a + skip (b.drop a)) (by omega)
  exact ⟨this.1, by have h2 := this.2; unfold next; omega⟩
theorem strength_real (op : Bs) (h : 0 < strength op) : op ≠ [] ∧ op ≠ wNone := by
  constructor
  · rintro rfl; exact absurd h (by decide)
  · rintro rfl; exact absurd h (by decide)
theorem const_good (b : Bs) (t : Tok) (hs : Sane b t) (ho : t.op = wNum) : Good b (t.pos + 1) (constant b t) := by
  have hf := hs.fin (by rw [ho]; decide) (by rw [ho]; decide)
  have hn := next_sane b t.fin hf.2
  unfold constant
  split
  · refine ⟨by simp, by simp, fun c p e => ?_⟩
    injection e with e1 e2
    exact ⟨.inr e1.symm, by have := hs.pos; omega⟩
  · split
    · exact Good.val hn.1 (by omega) _
    · split
      · refine ⟨by simp, by simp, fun c p e => ?_⟩
        injection e with e1 e2
        exact ⟨.inl e1.symm, by omega⟩
      · exact Good.val hn.1 (by omega) _

theorem good_all (b : Bs) : ∀ (n : Nat) (t : Tok), Sane b t → b.length - t.pos ≤ n →
    (∀ f, 5 * n + 1 ≤ f → Good b (t.pos + 1) (operand b f t)) ∧ (∀ f least e, 5 * n + 2 ≤ f → Good b t.pos (loop b f least e t)) ∧ (∀ f least, 5 * n + 3 ≤ f → Good b (t.pos + 1) (bin b f least t)) ∧
    (∀ f, 5 * n + 4 ≤ f → Good b (t.pos + 1) (Sp.cond b f t)) ∧ (∀ f, 5 * n + 5 ≤ f → Good b (t.pos + 1) (expr b f t)) := by
  intro n
  induction n using Nat.strongRecOn with
  | ind n ih =>
  intro t hs hn
  -- what comes behind a token that is there
  have step : ∀ u : Tok, Sane b u → t.pos ≤ u.pos → u.op ≠ [] → u.op ≠ wNone → Sane b (next b u.fin) ∧ u.pos < (next b u.fin).pos ∧ 1 ≤ n := by
    intro u hu hp h1 h2
    have hf := hu.fin h1 h2
    have := next_sane b u.fin hf.2
    exact ⟨this.1, by omega, by omega⟩
  have hO : ∀ f, 5 * n + 1 ≤ f → Good b (t.pos + 1) (operand b f t) := by
    intro f hf
    obtain ⟨f, rfl⟩ : ∃ j, f = j + 1 := ⟨f - 1, by omega⟩
    rw [operand]
    split
    · rename_i h
      have hst := step t hs (Nat.le_refl _) (by rcases h with h | h <;> rw [h] <;> decide) (by rcases h with h | h <;> rw [h] <;> decide)
      have hi := (ih (n - 1) (by omega) _ hst.1 (by omega)).1 f (by omega)
      exact hi.bind fun e t' _ h1 h2 => Good.val h1 (by omega) _
    · split
      · rename_i h
        have hst := step t hs (Nat.le_refl _) (by rcases h with h | h <;> rw [h] <;> decide) (by rcases h with h | h <;> rw [h] <;> decide)
        have hi := (ih (n - 1) (by omega) _ hst.1 (by omega)).1 f (by omega)
        exact hi.bind fun e t' _ h1 h2 => Good.val h1 (by omega) _
      · split
        · rename_i h
          exact const_good b t hs h
        · split
          · rename_i h
            have hst := step t hs (Nat.le_refl _) (by rw [h]; decide) (by rw [h]; decide)
            exact Good.val hst.1 (by omega) _
          · split
            · rename_i h
              have hst := step t hs (Nat.le_refl _) (by rw [h]; decide) (by rw [h]; decide)
              have hi := (ih (n - 1) (by omega) _ hst.1 (by omega)).2.2.2.2 f (by omega)
              refine hi.bind fun e t' _ h1 h2 => ?_
              split
              · rename_i h3
                have hst2 := step t' h1 (by omega) (by rw [h3]; decide) (by rw [h3]; decide)
                exact Good.val hst2.1 (by omega) _
              · exact Good.bar h1 _
            · exact Good.bar hs _
  have hL : ∀ f least e, 5 * n + 2 ≤ f → Good b t.pos (loop b f least e t) := by
    intro f least e hf
    obtain ⟨f, rfl⟩ : ∃ j, f = j + 1 := ⟨f - 1, by omega⟩
    rw [loop]
    split
    · exact Good.val hs (Nat.le_refl _) _
    · rename_i h
      have hr := strength_real t.op (by omega)
      have hst := step t hs (Nat.le_refl _) hr.1 hr.2
      have hi := (ih (n - 1) (by omega) _ hst.1 (by omega)).2.2.1 f (strength t.op) (by omega)
      refine hi.bind fun k t' _ h1 h2 => ?_
      have hj := (ih (n - 1) (by omega) t' h1 (by omega)).2.1 f least (.bin t.op t.pos e k) (by omega)
      exact ⟨hj.out, fun e' t'' h => ⟨(hj.ok e' t'' h).1, by have := (hj.ok e' t'' h).2; omega⟩, hj.err⟩
  have hB : ∀ f least, 5 * n + 3 ≤ f → Good b (t.pos + 1) (bin b f least t) := by
    intro f least hf
    obtain ⟨f, rfl⟩ : ∃ j, f = j + 1 := ⟨f - 1, by omega⟩
    rw [bin]
    refine (hO f (by omega)).bind fun e t' _ h1 h2 => ?_
    by_cases hn1 : 1 ≤ n
    · have hj := (ih (n - 1) (by omega) t' h1 (by omega)).2.1 f least e (by omega)
      exact ⟨hj.out, fun e' t'' h => ⟨(hj.ok e' t'' h).1, by have := (hj.ok e' t'' h).2; omega⟩, hj.err⟩
    · have := h1.pos; omega
  have hC : ∀ f, 5 * n + 4 ≤ f → Good b (t.pos + 1) (Sp.cond b f t) := by
    intro f hf
    obtain ⟨f, rfl⟩ : ∃ j, f = j + 1 := ⟨f - 1, by omega⟩
    rw [Sp.cond]
    refine (hB f 0 (by omega)).bind fun e t1 _ h1 h2 => ?_
    split
    · rename_i h3
      have hst := step t1 h1 (by omega) (by rw [h3]; decide) (by rw [h3]; decide)
      have hi := (ih (n - 1) (by omega) _ hst.1 (by omega)).2.2.2.2 f (by omega)
      refine hi.bind fun a t2 _ h4 h5 => ?_
      split
      · rename_i h6
        have hst2 := step t2 h4 (by omega) (by rw [h6]; decide) (by rw [h6]; decide)
        have hj := (ih (n - 1) (by omega) _ hst2.1 (by omega)).2.2.2.1 f (by omega)
        exact hj.bind fun c t3 _ h7 h8 => Good.val h7 (by omega) _
      · exact Good.bar h4 _
    · exact Good.val h1 (by omega) _
  refine ⟨hO, hL, hB, hC, ?_⟩
  intro f hf
  obtain ⟨f, rfl⟩ : ∃ j, f = j + 1 := ⟨f - 1, by omega⟩
  rw [expr]
  split
  · rename_i h
    have hst := step t hs (Nat.le_refl _) (by rw [h.1]; decide) (by rw [h.1]; decide)
    have ha : (next b t.fin).op ≠ [] ∧ (next b t.fin).op ≠ wNone := by
      constructor <;> (intro e; rw [e] at h; exact absurd h.2 (by decide))
    have hst2 := step (next b t.fin) hst.1 (by omega) ha.1 ha.2
    have hi := (ih (n - 1) (by omega) _ hst2.1 (by omega)).2.2.2.2 f (by omega)
    exact hi.bind fun e t' _ h1 h2 => Good.val h1 (by omega) _
  · exact hC f (by omega)

/-- Fuel enough for a text. -/
def fuel (b : Bs) : Nat := 5 * b.length + 5
theorem parse_good (b : Bs) : Good b 0 (parse b (fuel b)) := by
  have hn := next_sane b 0 (Nat.zero_le _)
  have := (good_all b b.length (next b 0) hn.1 (by omega)).2.2.2.2 (fuel b) (Nat.le_refl _)
  unfold parse
  refine this.bind fun e t _ h1 h2 => ?_
  split
  · exact Good.val h1 (Nat.zero_le _) _
  · exact Good.bar h1 _
end Go.Proofs.YtjllmamblkejjaaGreatDoor
end

/- What arith.Parse comes to, whatever the text. No conditions. -/
section
set_option linter.unusedVariables false
set_option linter.unusedSimpArgs false
namespace Go.Proofs.YtjllmamblkejjaaGreatDoor
open Go.RowKit Go.Proofs.YtjllmamblkejjaaGreatDoorW.PrintWords Go.Proofs.YtjllmamblkejjaaGreatDoorW.PrintLast Go.Proofs.YtjllmamblkejjaaGreatDoorW.PrintMore
open PQA Sp

/-- The whole answer to a text. -/
def parsed (b : Bs) : Res Ex := if b.length ≤ 1024 then parse b (fuel b) else .err 2 0
theorem of_two (E : Nat → Addr) (w : World) (hE : Env E w) : Calls Tryz.prog 36 #[.int .i64 2] w fun e w' => e = .returned (.iface 233 (.pointer (some (E 2)))) ∧ w = w' := of_calls E 2 w hE (by omega) (by omega)
set_option maxHeartbeats 4000000 in
set_option maxRecDepth 100000 in
theorem parse_long (E : Nat → Addr) (b : Bs) (A : Option Addr) (c : Nat) (w : World) (hE : Env E w) (hlen : ¬ b.length ≤ 1024) :
    Calls Tryz.prog 10 #[.slice A b.length c] w (ParsePost E w (.err 2 0)) := by
  have hmf : ∀ (fn : Fn) (first cap : Array Value) (w : World), (Instr.makeFunc fn first cap).run Tryz.prog w = .ok (.func fn first cap) w := fun _ _ _ _ => rfl
  have hl : decide ((b.length : Int) > 1024) = true := by simp; omega
  have hl2 : decide ((1024 : Int) < (b.length : Int)) = true := by simp; omega
  have HE := Aside0.mk hE
  clear hE
  go_enter_defers Tryz.func10, Tryz.ntmps10
  go_wp2_with fail
  with_reducible refine (of_two E _ (HE.out.below (by repeat (first | (with_reducible exact Below.refl _ _) | (with_reducible apply below_alloc))))).mono ?_
  rintro e w' ⟨rfl, rfl⟩
  go_wp2_with fail
  with_reducible refine (at_calls _ _ _ _).mono ?_
  rintro e w' ⟨rfl, rfl⟩
  go_wp2_with fail
  with_reducible refine (in_calls _ _ _ _).mono ?_
  rintro e w' ⟨rfl, rfl⟩
  go_wp2_with fail
  refine retd_gen fun W hW => ?_
  have hRes0 := (congrArg (fun x : World => x.heap[w.heap.size]?) hW).trans (blk_alloc (blk_alloc (blk_alloc (heap_new rfl _) _) _) _)
  have hRes1 := (congrArg (fun x : World => x.heap[w.heap.size + 1]?) hW).trans (blk_alloc (blk_alloc (heap_at (by simp) _) _) _)
  have hRes2 := (congrArg (fun x : World => x.heap[w.heap.size + 1 + 1]?) hW).trans (blk_alloc (heap_at (by simp) _) _)
  have hRes3 := (congrArg (fun x : World => x.heap[w.heap.size + 1 + 1 + 1]?) hW).trans (heap_at (by simp) _)
  have hBW : Below w.heap.size w W := by
    rw [hW]
    repeat (first | (with_reducible exact Below.refl _ _) | (with_reducible apply below_alloc))
  have hq0 : W.cell? ⟨w.heap.size, 0, none⟩ = some (.pointer none) := (blk_cell hRes0 0).trans rfl
  have hq1 : W.cell? ⟨w.heap.size + 1, 0, none⟩ = some (.iface 99 (.pointer (some ⟨w.heap.size + 1 + 1 + 1, 0, none⟩))) := (blk_cell hRes1 0).trans rfl
  clear hW
  simp [bodyPostD, Leaves, settle, results, Tryz.results10, go_sem, hq0, hq1]
  exact ⟨_, rfl, ⟨_, _, rfl, hRes3, hRes2⟩, hBW⟩
theorem parse_all (E : Nat → Addr) (b : Bs) (A : Option Addr) (c : Nat) (w : World) (hE : Env E w) (hr : Rb w A b) (hc : b.length ≤ c) :
    Calls Tryz.prog 10 #[.slice A b.length c] w (ParsePost E w (parsed b)) := by
  unfold parsed
  split
  · rename_i h
    have hg := parse_good b
    refine parse_calls E b A c w hE h hr hc (fuel b) _ rfl hg.out fun c p e => ?_
    rcases (hg.err c p e).1 with rfl | rfl <;> omega
  · rename_i h
    exact parse_long E b A c w hE h
end Go.Proofs.YtjllmamblkejjaaGreatDoor
end

/- Plain law: the compiler as a function on trees and lists of instructions. No program in sight. No conditions. -/
section
set_option linter.unusedVariables false
namespace Go.Proofs.YtjllmamblkejjaaGreatDoor
open Sp

/-- An instruction. -/
structure I where
  op : Nat
  n : Int
  name : Bs
  by_ : Bs
  pos : Nat
  dest : Nat
def sz : Ex → Nat
  | .num .. => 1
  | .name .. => 1
  | .un _ _ e => sz e + 1
  | .bin _ _ a b => sz a + sz b + 1
  | .tern _ c a b => sz c + sz a + sz b + 1
  | .asg _ _ _ _ e => sz e + 1
def patch (l : List I) (at_ : Nat) : List I := l.modify at_ fun i => { i with dest := l.length }
abbrev J (op : Nat) (n : Int) : I := ⟨op, n, [], [], 0, 0⟩
/-- The compiler: instructions behind those of l (0 num, 1 load, 2 store, 3 one, 4 two, 5 bool, 7 jump, 8 zero). -/
def put (l : List I) : Ex → List I
  | .num n _ => l ++ [J 0 n]
  | .name x pos => l ++ [⟨1, 0, x, [], pos, 0⟩]
  | .un op _ e => put l e ++ [⟨3, 0, [], op, 0, 0⟩]
  | .bin op pos a b =>
    if op = [38, 38] then
      patch (patch (put (put l a ++ [J 8 0]) b ++ [J 5 0] ++ [J 7 0]) (put l a).length ++ [J 0 0])
        (put (put l a ++ [J 8 0]) b ++ [J 5 0]).length
    else if op = [124, 124] then
      patch (put (patch (put l a ++ [J 8 0] ++ [J 0 1] ++ [J 7 0]) (put l a).length) b ++ [J 5 0])
        (put l a ++ [J 8 0] ++ [J 0 1]).length
    else put (put l a) b ++ [⟨4, 0, [], op, pos, 0⟩]
  | .tern _ c a b =>
    patch (put (patch (put (put l c ++ [J 8 0]) a ++ [J 7 0]) (put l c).length) b) (put (put l c ++ [J 8 0]) a).length
  | .asg op x pos apos e =>
    if op = [61] then put l e ++ [⟨2, 0, x, [], 0, 0⟩]
    else put (l ++ [⟨1, 0, x, [], pos, 0⟩]) e ++ [⟨4, 0, [], op.dropLast, apos, 0⟩] ++ [⟨2, 0, x, [], 0, 0⟩]
theorem patch_len (l : List I) (a : Nat) : (patch l a).length = l.length := by simp [patch]
theorem put_len (ex : Ex) : ∀ l : List I, l.length < (put l ex).length ∧ (put l ex).length ≤ l.length + 5 * sz ex := by
  induction ex with
  | num n pos => intro l; simp [put, sz]
  | name x pos => intro l; simp [put, sz]
  | un op pos e ih => intro l; have := ih l; simp only [put, sz, List.length_append, List.length_cons, List.length_nil]; omega
  | bin op pos a b iha ihb =>
    intro l
    rw [put]
    split
    · have h1 := iha l
      have h2 := ihb (put l a ++ [J 8 0])
      simp only [sz, patch_len, List.length_append, List.length_cons, List.length_nil] at *
      omega
    · split
      · have h1 := iha l
        have h2 := ihb (patch (put l a ++ [J 8 0] ++ [J 0 1] ++ [J 7 0]) (put l a).length)
        simp only [sz, patch_len, List.length_append, List.length_cons, List.length_nil] at *
        omega
      · have h1 := iha l
        have h2 := ihb (put l a)
        simp only [sz, List.length_append, List.length_cons, List.length_nil] at *
        omega
  | tern pos c a b ihc iha ihb =>
    intro l
    rw [put]
    have h1 := ihc l
    have h2 := iha (put l c ++ [J 8 0])
    have h3 := ihb (patch (put (put l c ++ [J 8 0]) a ++ [J 7 0]) (put l c).length)
    simp only [sz, patch_len, List.length_append, List.length_cons, List.length_nil] at *
    omega
  | asg op x pos apos e ih =>
    intro l
    rw [put]
    split
    · have h1 := ih l
      simp only [sz, List.length_append, List.length_cons, List.length_nil] at *
      omega
    · have h1 := ih (l ++ [⟨1, 0, x, [], pos, 0⟩])
      simp only [sz, List.length_append, List.length_cons, List.length_nil] at *
      omega


end Go.Proofs.YtjllmamblkejjaaGreatDoor
end

/- A tree's kids as a list: what the loops over Kids go by. No conditions. -/
section
set_option linter.unusedVariables false
set_option linter.unusedSimpArgs false
namespace Go.Proofs.YtjllmamblkejjaaGreatDoor
open Go.RowKit Go.Proofs.YtjllmamblkejjaaGreatDoorW.PrintWords Go.Proofs.YtjllmamblkejjaaGreatDoorW.PrintLast Go.Proofs.YtjllmamblkejjaaGreatDoorW.PrintMore
open PQA Sp

def kids : Ex → List Ex
  | .num .. => []
  | .name .. => []
  | .un _ _ e => [e]
  | .bin _ _ a b => [a, b]
  | .tern _ c a b => [c, a, b]
  | .asg _ _ _ _ e => [e]
/-- The five cells ahead of a tree's kids. -/
def head : Ex → List Value
  | .num n pos => [.string (mk wNum), .int .i64 (n : Int), .string (mk []), .int .i64 (pos : Int), .int .i64 ((0 : Nat) : Int)]
  | .name x pos => [.string (mk wName), .int .i64 ((0 : Nat) : Int), .string (mk x), .int .i64 (pos : Int), .int .i64 ((0 : Nat) : Int)]
  | .un op pos _ => [.string (mk op), .int .i64 ((0 : Nat) : Int), .string (mk []), .int .i64 (pos : Int), .int .i64 ((0 : Nat) : Int)]
  | .bin op pos _ _ => [.string (mk op), .int .i64 ((0 : Nat) : Int), .string (mk []), .int .i64 (pos : Int), .int .i64 ((0 : Nat) : Int)]
  | .tern pos _ _ _ => [.string (mk [63]), .int .i64 ((0 : Nat) : Int), .string (mk []), .int .i64 (pos : Int), .int .i64 ((0 : Nat) : Int)]
  | .asg op x pos apos _ => [.string (mk op), .int .i64 ((0 : Nat) : Int), .string (mk x), .int .i64 (pos : Int), .int .i64 (apos : Int)]
def TrPs (w : World) (P : Nat → Prop) : List Ex → List (List Value) → Prop
  | [], [] => True
  | e :: es, k :: ks => TrP w P e k ∧ TrPs w P es ks
  | _, _ => False
theorem TrPs.len {w : World} {P : Nat → Prop} : ∀ {es : List Ex} {ks : List (List Value)}, TrPs w P es ks → ks.length = es.length
  | [], [], _ => rfl
  | e :: es, k :: ks, h => by have := TrPs.len h.2; simp; omega
theorem TrPs.keep {w w' : World} {P : Nat → Prop} (hk : ∀ k cells, P k → w.heap[k]? = some (.cells cells 63 (0, 0)) → w'.heap[k]? = w.heap[k]?) : ∀ {es : List Ex} {ks : List (List Value)}, TrPs w P es ks → TrPs w' P es ks
  | [], [], _ => trivial
  | e :: es, k :: ks, h => ⟨TrP.keep hk e k h.1, TrPs.keep hk h.2⟩
theorem TrP.mono {w : World} {P Q : Nat → Prop} (hk : ∀ k, k < w.heap.size → P k → Q k) : ∀ (ex : Ex) (cs : List Value), TrP w P ex cs → TrP w Q ex cs
  | .num n pos, cs, h => h
  | .name x pos, cs, h => h
  | .un op pos e, cs, ⟨b, c, k, z, hb, hc, hh, hcs, h1⟩ => ⟨b, c, k, z, hk b (blk_lt hh) hb, hc, hh, hcs, TrP.mono hk e k h1⟩
  | .bin op pos e1 e2, cs, ⟨b, c, k1, k2, z, hb, hc, hh, hcs, h1, h2⟩ => ⟨b, c, k1, k2, z, hk b (blk_lt hh) hb, hc, hh, hcs, TrP.mono hk e1 k1 h1, TrP.mono hk e2 k2 h2⟩
  | .tern pos e1 e2 e3, cs, ⟨b, c, k1, k2, k3, z, hb, hc, hh, hcs, h1, h2, h3⟩ => ⟨b, c, k1, k2, k3, z, hk b (blk_lt hh) hb, hc, hh, hcs, TrP.mono hk e1 k1 h1, TrP.mono hk e2 k2 h2, TrP.mono hk e3 k3 h3⟩
  | .asg op x pos apos e, cs, ⟨b, c, k, z, hb, hc, hh, hcs, h1⟩ => ⟨b, c, k, z, hk b (blk_lt hh) hb, hc, hh, hcs, TrP.mono hk e k h1⟩
theorem TrPs.mono {w : World} {P Q : Nat → Prop} (hk : ∀ k, k < w.heap.size → P k → Q k) : ∀ {es : List Ex} {ks : List (List Value)}, TrPs w P es ks → TrPs w Q es ks
  | [], [], _ => trivial
  | e :: es, k :: ks, h => ⟨TrP.mono hk e k h.1, TrPs.mono hk h.2⟩
theorem TrPs.snoc {w : World} {P : Nat → Prop} {e : Ex} {k : List Value} : ∀ {es : List Ex} {ks : List (List Value)}, TrPs w P es ks → TrP w P e k → TrPs w P (es ++ [e]) (ks ++ [k])
  | [], [], _, h => ⟨h, trivial⟩
  | e' :: es, k' :: ks, h, h' => ⟨h.1, TrPs.snoc h.2 h'⟩
theorem TrPs.at {w : World} {P : Nat → Prop} : ∀ {es : List Ex} {ks : List (List Value)} (_ : TrPs w P es ks) (i : Nat) (hi : i < es.length), ∃ k, ks[i]? = some k ∧ TrP w P es[i] k
  | e :: es, k :: ks, h, 0, hi => ⟨k, rfl, h.1⟩
  | e :: es, k :: ks, h, i + 1, hi => TrPs.at h.2 i (by simpa using hi)
theorem TrP.six {w : World} {P : Nat → Prop} {ex : Ex} {cs : List Value} (h : TrP w P ex cs) : ∃ (s0 : ByteArray) (n1 : Int) (s2 : ByteArray) (n3 n4 : Int) (A : Option Addr) (n c : Nat), cs = [.string s0, .int .i64 n1, .string s2, .int .i64 n3, .int .i64 n4, .slice A n c] :=
  Tr.six (lo := 0) (TrP.tr (fun _ _ => Nat.zero_le _) ex cs h)
theorem TrPs.six {w : World} {P : Nat → Prop} : ∀ {es : List Ex} {ks : List (List Value)}, TrPs w P es ks → ∀ k ∈ ks, k.length = 6
  | [], [], _ => by simp
  | e :: es, k :: ks, h => by
    intro k' hk'
    rcases List.mem_cons.1 hk' with rfl | hk'
    · obtain ⟨_, _, _, _, _, _, _, _, rfl⟩ := h.1.six; rfl
    · exact TrPs.six h.2 k' hk'
theorem flat_len : ∀ (ks : List (List Value)), (∀ k ∈ ks, k.length = 6) → ks.flatten.length = ks.length * 6
  | [], _ => rfl
  | k :: ks, h => by
    have h1 := h k (by simp)
    have h2 := flat_len ks (fun k' hk' => h k' (by simp [hk']))
    simp only [List.flatten_cons, List.length_append, List.length_cons]
    omega
theorem flat_at : ∀ (ks : List (List Value)) (_ : ∀ k ∈ ks, k.length = 6) (i j : Nat) (k : List Value) (_ : ks[i]? = some k) (_ : j < 6), ks.flatten[i * 6 + j]? = k[j]?
  | k :: ks, h, 0, j, k', hk, hj => by
    obtain rfl : k = k' := by simpa using hk
    have h1 := h k (by simp)
    rw [List.flatten_cons, List.getElem?_append_left (by omega)]
    simp
  | k :: ks, h, i + 1, j, k', hk, hj => by
    have h1 := h k (by simp)
    have := flat_at ks (fun k' hk' => h k' (by simp [hk'])) i j k' (by simpa using hk) hj
    rw [List.flatten_cons, List.getElem?_append_right (by omega), ← this]
    congr 1
    omega

theorem sz_kid (ex e : Ex) (h : e ∈ kids ex) : sz e < sz ex := by
  cases ex <;> simp [kids] at h <;> simp only [sz] <;> (first | (subst h; omega) | (rcases h with rfl | rfl <;> omega) | (rcases h with rfl | rfl | rfl <;> omega))
theorem own_keep {w w' : World} {base : Nat} {e : TypeId} {size n : Nat} {v : Value} {xs : List Value} (h : w.ownsRow base e size v n xs) (hk : ∀ g, v.ownBlock = some g → g < w.heap.size → w'.heap[g]? = w.heap[g]?) : w'.ownsRow base e size v n xs := by
  obtain ⟨h1, h2⟩ := h
  refine ⟨h1, ?_⟩
  rcases h2 with h2 | ⟨g, cap, cur, rfl, hb, hg, r⟩
  · exact .inl h2
  · exact .inr ⟨g, cap, cur, rfl, hb, (hk g rfl (blk_lt hg)).trans hg, r⟩
theorem own_lt {w : World} {base : Nat} {e : TypeId} {size n : Nat} {v : Value} {xs : List Value} (h : w.ownsRow base e size v n xs) (g : Nat) (hg : v.ownBlock = some g) : base ≤ g ∧ g < w.heap.size := by
  rcases h.2 with ⟨rfl, _⟩ | ⟨g', cap, cur, rfl, hb, hh, _⟩
  · simp [Value.ownBlock] at hg
  · obtain rfl : g' = g := by simpa [Value.ownBlock] using hg
    exact ⟨hb, blk_lt hh⟩
theorem grown_below {B : Nat} {w w1 w2 : World} {row : Option Nat} (h : Below B w w1) (hg : w1.grownBy w2 row) (hB : B ≤ w1.heap.size) (hr : ∀ g, row = some g → B ≤ g) : Below B w w2 :=
  ⟨hg.os.trans h.os, hg.tape.trans h.tape, hg.output.trans h.output, Nat.le_trans h.size hg.size, fun k hk => (hg.block k (by omega) (fun e => by have := hr k e.symm; omega)).trans (h.block k hk)⟩
theorem infoA : (Tryz.prog.info? 63).map (fun i => (i.zero, i.size, i.bytes)) = some (some (.agg #[.string ⟨#[]⟩, .int .i64 0, .string ⟨#[]⟩, .int .i64 0, .int .i64 0, .slice none 0 0]), 6, 80) := by kernel_rfl
/-- append(l, k): one kid more, at a step of a region that draws. -/
theorem step_kid {ops : Array Oper} {o : Oper} {a : Act} {Q : Exit → Act → World → Prop} {K : Act → World → Prop} {W : World} (base : Nat) (hw : Region.wanted o (yielded ops a.tmps) = true) (s x : Operand)
    (ho : o.op = .call { callee := .builtin .append, args := #[s, x], argTypes := #[61, 61] })
    (v : Value) (n : Nat) (xs ys : List Value) (hs : a.eval s = v) (hx : a.eval x = .slice (some ⟨W.heap.size, 0, none⟩) 1 1) (hys : ys.length = 6) (h1 : ∀ u ∈ ys, u.oneCell' = true)
    (HO : W.ownsRow base 63 6 v n xs) (hbase : base ≤ W.heap.size) (hl : n ≤ 1000000)
    (h : ∀ v1 w1, w1.ownsRow base 63 6 v1 (n + 1) (xs ++ ys) → W.grownBy w1 v.ownBlock → (v1.ownBlock = v.ownBlock ∨ ∃ b, v1.ownBlock = some b ∧ W.heap.size ≤ b) → K (a.put o.dst v1) w1) :
    if Region.wanted o (yielded ops a.tmps) = true then Oper.wp Tryz.prog o a (W.alloc (.cells ys.toArray 63)) K Q else K (a.put o.dst undef) (W.alloc (.cells ys.toArray 63)) :=
  step_append_cells (w0 := W) base hw s x 61 63 _ 6 80 ho Tryz.underlying61 infoA rfl (by omega) (by omega) v n xs ys hs hx hys h1 HO (Below.refl _ _) hbase (by omega) fun v1 w1 a1 _ a3 a4 => h v1 w1 a1 a3 a4

/-- A tree opened at its kids. -/
theorem Tr.open {w : World} {lo : Nat} {ex : Ex} {cs : List Value} (h : Tr w lo ex cs) : ∃ (A : Option Addr) (c : Nat) (kss : List (List Value)), cs = head ex ++ [.slice A (kids ex).length c] ∧ (kids ex).length ≤ c ∧ TrPs w (lo ≤ ·) (kids ex) kss ∧
    (((kids ex).length = 0 ∧ A = none ∧ c = 0) ∨ (0 < (kids ex).length ∧ ∃ b z, A = some ⟨b, 0, none⟩ ∧ lo ≤ b ∧ w.heap[b]? = some (.cells (kss.flatten ++ z).toArray 63 (0, 0)))) := by
  have hP : ∀ {e k}, Tr w lo e k → TrP w (lo ≤ ·) e k := fun {e k} h => TrP.of (fun _ h _ => h) e k h
  cases ex with
  | num n pos => exact ⟨none, 0, [], h, Nat.le_refl _, trivial, .inl ⟨rfl, rfl, rfl⟩⟩
  | name x pos => exact ⟨none, 0, [], h, Nat.le_refl _, trivial, .inl ⟨rfl, rfl, rfl⟩⟩
  | un op pos e =>
    obtain ⟨b, c, k, z, hb, hc, hh, hcs, h1⟩ := h
    exact ⟨_, c, [k], hcs, hc, ⟨hP h1, trivial⟩, .inr ⟨Nat.one_pos, b, z, rfl, hb, by simpa using hh⟩⟩
  | bin op pos e1 e2 =>
    obtain ⟨b, c, k1, k2, z, hb, hc, hh, hcs, h1, h2⟩ := h
    exact ⟨_, c, [k1, k2], hcs, hc, ⟨hP h1, hP h2, trivial⟩, .inr ⟨by simp [kids], b, z, rfl, hb, by simpa using hh⟩⟩
  | tern pos e1 e2 e3 =>
    obtain ⟨b, c, k1, k2, k3, z, hb, hc, hh, hcs, h1, h2, h3⟩ := h
    exact ⟨_, c, [k1, k2, k3], hcs, hc, ⟨hP h1, hP h2, hP h3, trivial⟩, .inr ⟨by simp [kids], b, z, rfl, hb, by simpa using hh⟩⟩
  | asg op x pos apos e =>
    obtain ⟨b, c, k, z, hb, hc, hh, hcs, h1⟩ := h
    exact ⟨_, c, [k], hcs, hc, ⟨hP h1, trivial⟩, .inr ⟨Nat.one_pos, b, z, rfl, hb, by simpa using hh⟩⟩
/-- A tree shut over its kids: a slice that owns their cells. -/
theorem Tr.shut {w : World} {base lo : Nat} {ex : Ex} {v : Value} {kss : List (List Value)} (ho : w.ownsRow base 63 6 v (kids ex).length kss.flatten) (hv0 : (kids ex).length = 0 → v = .slice none 0 0) (hl : lo ≤ base) (hk : TrPs w (lo ≤ ·) (kids ex) kss) : Tr w lo ex (head ex ++ [v]) := by
  have hT : ∀ {e k}, TrP w (lo ≤ ·) e k → Tr w lo e k := fun {e k} h => TrP.tr (fun _ h => h) e k h
  have hz : ∀ {n : Nat}, 0 < n → w.ownsRow base 63 6 v n kss.flatten → ∃ b c z, v = .slice (some ⟨b, 0, none⟩) n c ∧ lo ≤ b ∧ n ≤ c ∧ w.heap[b]? = some (.cells (kss.flatten ++ z).toArray 63 (0, 0)) := by
    intro n hn h
    rcases h.2 with ⟨_, h0⟩ | ⟨g, cap, cur, hv, hb, hg, hc, _, hs, ht⟩
    · omega
    · refine ⟨g, cap, cur.toList.drop (n * 6), hv, by omega, hc, ?_⟩
      rw [hg, ← ht, List.take_append_drop]
  cases ex with
  | num n pos =>
    rw [hv0 rfl]; rfl
  | name x pos =>
    rw [hv0 rfl]; rfl
  | un op pos e =>
    obtain ⟨b, c, z, rfl, hb, hc, hg⟩ := hz (n := 1) Nat.one_pos ho
    match kss, hk with
    | [k], ⟨h1, _⟩ => exact ⟨b, c, k, z, hb, hc, by simpa using hg, rfl, hT h1⟩
  | bin op pos e1 e2 =>
    obtain ⟨b, c, z, rfl, hb, hc, hg⟩ := hz (n := 2) (by omega) ho
    match kss, hk with
    | [k1, k2], ⟨h1, h2, _⟩ => exact ⟨b, c, k1, k2, z, hb, hc, by simpa using hg, rfl, hT h1, hT h2⟩
  | tern pos e1 e2 e3 =>
    obtain ⟨b, c, z, rfl, hb, hc, hg⟩ := hz (n := 3) (by omega) ho
    match kss, hk with
    | [k1, k2, k3], ⟨h1, h2, h3, _⟩ => exact ⟨b, c, k1, k2, k3, z, hb, hc, by simpa using hg, rfl, hT h1, hT h2, hT h3⟩
  | asg op x pos apos e =>
    obtain ⟨b, c, z, rfl, hb, hc, hg⟩ := hz (n := 1) Nat.one_pos ho
    match kss, hk with
    | [k], ⟨h1, _⟩ => exact ⟨b, c, k, z, hb, hc, by simpa using hg, rfl, hT h1⟩
end Go.Proofs.YtjllmamblkejjaaGreatDoor
end

/- What arith.copied comes to: the tree anew. No conditions. -/
section
set_option linter.unusedVariables false
set_option linter.unusedSimpArgs false
namespace Go.Proofs.YtjllmamblkejjaaGreatDoor
open Go.RowKit Go.Proofs.YtjllmamblkejjaaGreatDoorW.PrintWords Go.Proofs.YtjllmamblkejjaaGreatDoorW.PrintLast Go.Proofs.YtjllmamblkejjaaGreatDoorW.PrintMore
open PQA Sp

/-- Where copied's loop stands: i kids are copied into a row of the call's own. -/
structure CopyLoop (w : World) (ex : Ex) (s0 : ByteArray) (n1 : Int) (s2 : ByteArray) (n3 n4 : Int) (i : Nat) (wr : World) : Prop where
  made : ∃ v kss, wr.heap[w.heap.size]? = some (.cells #[.string s0, .int .i64 n1, .string s2, .int .i64 n3, .int .i64 n4, v] 63 (0, 0)) ∧ wr.ownsRow (w.heap.size + 2) 63 6 v i kss.flatten ∧ (i = 0 → v = .slice none 0 0) ∧
    TrPs wr (fun k => w.heap.size + 2 ≤ k ∧ some k ≠ v.ownBlock) ((kids ex).take i) kss
  res : wr.heap[w.heap.size + 1]? = some (.cells #[.string ⟨#[]⟩, .int .i64 0, .string ⟨#[]⟩, .int .i64 0, .int .i64 0, .slice none 0 0] 63 (0, 0))
  below : Below w.heap.size w wr

set_option maxHeartbeats 4000000 in
set_option maxRecDepth 100000 in
theorem copied_step (m : Nat) (ih : ∀ ex : Ex, sz ex < m → ∀ (lo : Nat) (cs : List Value) (w : World), Tr w lo ex cs → Calls Tryz.prog 85 #[.agg cs.toArray] w fun e w' => (∃ (s0 : ByteArray) (n1 : Int) (s2 : ByteArray) (n3 n4 : Int) (A : Option Addr) (n c : Nat), e = .returned (.agg #[.string s0, .int .i64 n1, .string s2, .int .i64 n3, .int .i64 n4, .slice A n c]) ∧ Tr w' w.heap.size ex [.string s0, .int .i64 n1, .string s2, .int .i64 n3, .int .i64 n4, .slice A n c]) ∧ Below w.heap.size w w')
    (ex : Ex) (hsz : sz ex < m + 1) (lo : Nat) (cs : List Value) (w : World) (hT : Tr w lo ex cs) : Calls Tryz.prog 85 #[.agg cs.toArray] w fun e w' => (∃ (s0 : ByteArray) (n1 : Int) (s2 : ByteArray) (n3 n4 : Int) (A : Option Addr) (n c : Nat), e = .returned (.agg #[.string s0, .int .i64 n1, .string s2, .int .i64 n3, .int .i64 n4, .slice A n c]) ∧ Tr w' w.heap.size ex [.string s0, .int .i64 n1, .string s2, .int .i64 n3, .int .i64 n4, .slice A n c]) ∧ Below w.heap.size w w' := by
  obtain ⟨A, c, kss, hcs, hnc, hks, hA⟩ := hT.open
  obtain ⟨s0, n1, s2, n3, n4, A', n', c', h6⟩ := Tr.six hT
  have hh : head ex = [.string s0, .int .i64 n1, .string s2, .int .i64 n3, .int .i64 n4] := by
    have := hcs.symm.trans h6
    have hl : (head ex).length = 5 := by cases ex <;> rfl
    exact (List.append_inj this hl).1
  have hkid : ∀ e ∈ kids ex, sz e < m := fun e he => by have := sz_kid ex e he; omega
  have hlen : (kids ex).length ≤ 3 := by cases ex <;> simp [kids]
  rw [hcs, hh]
  generalize hn : (kids ex).length = n at *
  have HN := Aside0.mk hn
  have HK := Aside0.mk hks
  have HKD := Aside0.mk hkid
  have HA := Aside0.mk hA
  have HH := Aside0.mk hh
  have HIH := Aside0.mk ih
  clear hcs h6 hh hkid hks hA hn hT ih hsz
  show Calls _ _ #[.agg #[.string s0, .int .i64 n1, .string s2, .int .i64 n3, .int .i64 n4, .slice A n c]] _ _
  have HL := Aside0.mk (CopyLoop.mk (w := w) (ex := ex) (s0 := s0) (n1 := n1) (s2 := s2) (n3 := n3) (n4 := n4) (i := 0) (wr := (w.alloc (.cells #[.string s0, .int .i64 n1, .string s2, .int .i64 n3, .int .i64 n4, .slice none 0 0] 63)).alloc (.cells #[.string ⟨#[]⟩, .int .i64 0, .string ⟨#[]⟩, .int .i64 0, .int .i64 0, .slice none 0 0] 63))
    ⟨.slice none 0 0, [], new0 w _ _ 0, ⟨rfl, .inl ⟨rfl, rfl⟩⟩, fun _ => rfl, by simp [TrPs]⟩ (new1 w _ _ 0) (below_alloc (below_alloc (Below.refl _ _) _) _))
  go_enter Tryz.func85, Tryz.ntmps85
  go_wp2_with fail
  go_loopg [5, 11] n (fun gk v5 v11 wr => ∃ i : Nat, v11 = .int .i64 (i : Int) ∧ i ≤ n ∧ gk = n - i ∧ Aside0 (CopyLoop w ex s0 n1 s2 n3 n4 i wr))
  case atStart => exact ⟨0, rfl, by omega, rfl, HL⟩
  case round =>
    obtain ⟨i, rfl, hi, hgk, HC⟩ := hrel
    clear HL
    obtain ⟨⟨v, kks, hba, how, hv0, hkk⟩, hres, hbel⟩ := HC.out
    by_cases hin : i < n
    · have hd : decide ((i : Int) < (n : Int)) = true := by simp; omega
      obtain ⟨b, z, rfl, hb, hhb⟩ : ∃ b z, A = some ⟨b, 0, none⟩ ∧ lo ≤ b ∧ w.heap[b]? = some (.cells (kss.flatten ++ z).toArray 63 (0, 0)) := by
        rcases HA.out with ⟨h, _⟩ | ⟨_, h⟩
        · omega
        · exact h
      obtain ⟨k, hk, hTk⟩ := TrPs.at HK.out i (by have := HN.out; omega)
      obtain ⟨t0, m1, t2, m3, m4, AA, ll, cc, rfl⟩ := hTk.six
      have hbw := (hbel.block b (blk_lt hhb)).trans hhb
      have hcell : ∀ j u, j < 6 → ([.string t0, .int .i64 m1, .string t2, .int .i64 m3, .int .i64 m4, .slice AA ll cc] : List Value)[j]? = some u → wr.cell? ⟨b, i * 6 + j, none⟩ = some u := by
        intro j u hj hu
        refine (blk_cell hbw (i * 6 + j)).trans ?_
        have h1 := flat_at kss (TrPs.six HK.out) i j _ hk hj
        rw [hu] at h1
        obtain ⟨hlt, hx⟩ := List.getElem?_eq_some_iff.1 h1
        simp only [List.getElem?_toArray]
        rw [List.getElem?_append_left hlt, h1]
      have hx0 := hcell 0 _ (by omega) rfl
      have hx1 := hcell 1 _ (by omega) rfl
      have hx2 := hcell 2 _ (by omega) rfl
      have hx3 := hcell 3 _ (by omega) rfl
      have hx4 := hcell 4 _ (by omega) rfl
      have hx5 := hcell 5 _ (by omega) rfl
      simp only [Nat.add_zero] at hx0
      have HBA := Aside0.mk hba
      have HOW := Aside0.mk how
      have HV0 := Aside0.mk hv0
      have HKK := Aside0.mk hkk
      have HRS := Aside0.mk hres
      have HBL := Aside0.mk hbel
      have HTK := Aside0.mk hTk
      clear hcell hbw hba how hv0 hkk hres hbel hTk hk hhb HC
      have hv5 : wr.cell? ⟨w.heap.size, 5, none⟩ = some v := (blk_cell HBA.out 5).trans rfl
      have hlw : w.heap.size < wr.heap.size := blk_lt HBA.out
      have HCl := Aside0.mk (HIH.out _ (HKD.out _ (List.getElem_mem (by have := HN.out; omega))) lo _ ((wr.alloc (.cells #[.string t0, .int .i64 m1, .string t2, .int .i64 m3, .int .i64 m4, .slice AA ll cc] 63)).drew) (TrP.tr (fun _ h => h) _ _ (TrP.keep (w' := (wr.alloc (.cells #[.string t0, .int .i64 m1, .string t2, .int .i64 m3, .int .i64 m4, .slice AA ll cc] 63)).drew) (fun k _ _ hk => (Below.heap_alloc wr _ k (Nat.lt_of_lt_of_le (blk_lt hk) HBL.out.size)).trans (HBL.out.block k (blk_lt hk))) _ _ HTK.out)))
      go_wp2_with fail
      go_region_law (first | ((rw [if_pos (by simp [Region.wanted])]; go_simp; go_at_call 85; ((with_reducible refine HCl.out.mono ?_); rintro e w5 ⟨⟨u0, l1, u2, l3, l4, AB, lb, cb, rfl, hTr⟩, hB5⟩; have hba5 : w5.heap[w.heap.size]? = _ := (hB5.block _ (by simp; omega)).trans (blk_alloc HBA.out _); have hk5 : w5.heap[wr.heap.size]? = _ := (hB5.block _ (by simp)).trans (heap_new rfl _); have HO5 := Aside0.mk (own_keep (w' := w5) HOW.out (fun g hg hlt => (hB5.block g (by simp; omega)).trans (Below.heap_alloc wr _ g hlt))); have xv : w5.cell? ⟨w.heap.size, 5, none⟩ = some v := (blk_cell hba5 5).trans rfl; have xk0 : w5.cell? ⟨wr.heap.size, 0, none⟩ = some (.string t0) := (blk_cell hk5 0).trans rfl; have xk1 : w5.cell? ⟨wr.heap.size, 1, none⟩ = some (.int .i64 m1) := (blk_cell hk5 1).trans rfl; have xk2 : w5.cell? ⟨wr.heap.size, 2, none⟩ = some (.string t2) := (blk_cell hk5 2).trans rfl; have xk3 : w5.cell? ⟨wr.heap.size, 3, none⟩ = some (.int .i64 m3) := (blk_cell hk5 3).trans rfl; have xk4 : w5.cell? ⟨wr.heap.size, 4, none⟩ = some (.int .i64 m4) := (blk_cell hk5 4).trans rfl; have xk5 : w5.cell? ⟨wr.heap.size, 5, none⟩ = some (.slice AA ll cc) := (blk_cell hk5 5).trans rfl; have HX := Aside0.mk (And.intro xv (And.intro xk0 (And.intro xk1 (And.intro xk2 (And.intro xk3 (And.intro xk4 xk5)))))); have hf5 := blk_frozen hba5 5; have HBA5 := Aside0.mk hba5; have HK5 := Aside0.mk hk5; have hltw5 : w.heap.size < w5.heap.size := blk_lt hba5; have hltk5 := blk_lt hk5; have HB5 := Aside0.mk hB5; have HTr5 := Aside0.mk hTr; clear hTr hB5 hba5 hk5))) | (refine step_kid (W := w5) (w.heap.size + 2) (by simp [Region.wanted]) (.tmp 16) (.tmp 19) rfl v i kks.flatten [.string u0, .int .i64 l1, .string u2, .int .i64 l3, .int .i64 l4, .slice AB lb cb] rfl rfl rfl (by simp [Value.oneCell']) HO5.out (by omega) (by omega) ?_; intro v1 w6 ho6 hg6 hat6; obtain ⟨g6, cap6, rfl, hge6, hlt6⟩ := World.ownsRow.form ho6 (by omega); have hba6 : w6.heap[w.heap.size]? = _ := (hg6.block _ (by omega) (by intro e; have := (own_lt HO5.out _ e.symm).1; omega)).trans HBA5.out; have hk6 : w6.heap[wr.heap.size]? = _ := (hg6.block _ (by omega) (by intro e; have := (own_lt HOW.out _ e.symm).2; omega)).trans HK5.out; have yv : w6.cell? ⟨w.heap.size, 5, none⟩ = some v := (blk_cell hba6 5).trans rfl; have yk0 : w6.cell? ⟨wr.heap.size, 0, none⟩ = some (.string t0) := (blk_cell hk6 0).trans rfl; have yk1 : w6.cell? ⟨wr.heap.size, 1, none⟩ = some (.int .i64 m1) := (blk_cell hk6 1).trans rfl; have yk2 : w6.cell? ⟨wr.heap.size, 2, none⟩ = some (.string t2) := (blk_cell hk6 2).trans rfl; have yk3 : w6.cell? ⟨wr.heap.size, 3, none⟩ = some (.int .i64 m3) := (blk_cell hk6 3).trans rfl; have yk4 : w6.cell? ⟨wr.heap.size, 4, none⟩ = some (.int .i64 m4) := (blk_cell hk6 4).trans rfl; have yk5 : w6.cell? ⟨wr.heap.size, 5, none⟩ = some (.slice AA ll cc) := (blk_cell hk6 5).trans rfl; have HX6 := Aside0.mk (And.intro yv (And.intro yk0 (And.intro yk1 (And.intro yk2 (And.intro yk3 (And.intro yk4 yk5)))))); have hf6 := blk_frozen hba6 5; have HBA6 := Aside0.mk hba6; have HO6 := Aside0.mk ho6; have HG6 := Aside0.mk hg6; have HAT6 := Aside0.mk hat6; have hltw6 : w.heap.size < w6.heap.size := blk_lt hba6; clear ho6 hg6 hat6 hba6 hk6))
      all_goals
        go_wp2_with fail
        go_roundg (n - (i + 1))
        case measure => omega
        case rel =>
          have hlr := blk_lt HRS.out
          have h65 := HG6.out.size
          have hW5 := HB5.out.size
          simp at hW5
          have hrow : ∀ k, some k = v.ownBlock → w.heap.size + 2 ≤ k ∧ k < wr.heap.size := fun k hk => own_lt HOW.out k hk.symm
          have hgn : ∀ k, k < wr.heap.size → some k ≠ v.ownBlock → some k ≠ (Value.slice (some ⟨g6, 0, none⟩) (i + 1) cap6).ownBlock := by
            intro k hk hkv e
            rcases HAT6.out with h | ⟨q, h, hq⟩
            · exact hkv (e.trans h)
            · rw [h] at e; injection e with e; omega
          have hgn2 : ∀ k, wr.heap.size ≤ k → k < w5.heap.size → some k ≠ (Value.slice (some ⟨g6, 0, none⟩) (i + 1) cap6).ownBlock := by
            intro k hk hk5 e
            rcases HAT6.out with h | ⟨q, h, hq⟩
            · have := hrow k (e.trans h); omega
            · rw [h] at e; injection e with e; omega
          have hold : ∀ k, k < wr.heap.size → w.heap.size + 2 ≤ k ∨ k = w.heap.size + 1 → some k ≠ v.ownBlock → (w6.setCell ⟨w.heap.size, 5, none⟩ (.slice (some ⟨g6, 0, none⟩) (i + 1) cap6)).heap[k]? = wr.heap[k]? := by
            intro k hk hk2 hkv
            refine (Below.heap_setCell w6 ⟨w.heap.size, 5, none⟩ _ k (by simp; omega)).trans ?_
            exact (HG6.out.block k (by omega) hkv).trans ((HB5.out.block k (by simp; omega)).trans (Below.heap_alloc wr _ k hk))
          have htk : (kids ex).take (i + 1) = (kids ex).take i ++ [(kids ex)[i]'(by have := HN.out; omega)] := List.take_succ_eq_append_getElem _
          refine ⟨i + 1, by go_num, by omega, rfl, ⟨⟨⟨.slice (some ⟨g6, 0, none⟩) (i + 1) cap6, kks ++ [[.string u0, .int .i64 l1, .string u2, .int .i64 l3, .int .i64 l4, .slice AB lb cb]], ?_, ?_, fun h => absurd h (by omega), ?_⟩, ?_, ?_⟩⟩⟩
          · exact blk_set HBA6.out 5 _
          · have h := own_keep (w' := w6.setCell ⟨w.heap.size, 5, none⟩ (.slice (some ⟨g6, 0, none⟩) (i + 1) cap6)) HO6.out (fun g hg hlt => Below.heap_setCell w6 ⟨w.heap.size, 5, none⟩ _ g (by have := (own_lt HO6.out g hg).1; simp; omega))
            simpa using h
          · rw [htk]
            refine TrPs.snoc ?_ ?_
            · refine TrPs.mono (P := fun k => w.heap.size + 2 ≤ k ∧ some k ≠ v.ownBlock ∧ some k ≠ (Value.slice (some ⟨g6, 0, none⟩) (i + 1) cap6).ownBlock) (fun k _ h => ⟨h.1, h.2.2⟩) ?_
              exact TrPs.keep (w := wr) (fun k _ hP hk => hold k (blk_lt hk) (.inl hP.1) hP.2.1) (TrPs.mono (P := fun k => w.heap.size + 2 ≤ k ∧ some k ≠ v.ownBlock) (fun k hk hP => ⟨hP.1, hP.2, hgn k hk hP.2⟩) HKK.out)
            · refine TrP.mono (P := fun k => wr.heap.size + 1 ≤ k ∧ some k ≠ (Value.slice (some ⟨g6, 0, none⟩) (i + 1) cap6).ownBlock) (fun k _ h => ⟨by have := h.1; omega, h.2⟩) _ _ ?_
              refine TrP.keep (w := w5) (fun k _ hP hk => ?_) _ _ (TrP.of (lo := wr.heap.size + 1) (fun k h1 h2 => ⟨h1, hgn2 k (by omega) h2⟩) _ _ (Tr.lo (by simp) _ _ HTr5.out))
              refine (Below.heap_setCell w6 ⟨w.heap.size, 5, none⟩ _ k (by have := hP.1; simp; omega)).trans (HG6.out.block k (blk_lt hk) ?_)
              intro e
              have := hrow k e
              have := hP.1
              omega
          · refine (hold (w.heap.size + 1) hlr (.inr rfl) ?_).trans HRS.out
            intro e
            have := hrow _ e
            omega
          · have hb6 : Below w.heap.size w w6 := grown_below (below_then (below_drew1 (below_alloc HBL.out _)) (by simp; omega) HB5.out) HG6.out (by omega) (fun g hg => by have := (hrow g hg.symm).1; omega)
            exact hb6.setCell (Nat.le_refl w.heap.size) _
    · obtain rfl : i = n := by omega
      have hd : decide ((i : Int) < (i : Int)) = false := by simp
      obtain ⟨AV, nv, cv, rfl⟩ : ∃ AV nv cv, v = .slice AV nv cv := by
        rcases how.2 with ⟨h, _⟩ | ⟨g, cap, cur, h, _⟩
        · exact ⟨_, _, _, h⟩
        · exact ⟨_, _, _, h⟩
      have hd0 : wr.cell? ⟨w.heap.size + 1, 0, none⟩ = some (.string ⟨#[]⟩) := (blk_cell hres 0).trans rfl; have hd1 : wr.cell? ⟨w.heap.size + 1, 1, none⟩ = some (.int .i64 0) := (blk_cell hres 1).trans rfl; have hd2 : wr.cell? ⟨w.heap.size + 1, 2, none⟩ = some (.string ⟨#[]⟩) := (blk_cell hres 2).trans rfl; have hd3 : wr.cell? ⟨w.heap.size + 1, 3, none⟩ = some (.int .i64 0) := (blk_cell hres 3).trans rfl; have hd4 : wr.cell? ⟨w.heap.size + 1, 4, none⟩ = some (.int .i64 0) := (blk_cell hres 4).trans rfl; have hd5 : wr.cell? ⟨w.heap.size + 1, 5, none⟩ = some (.slice none 0 0) := (blk_cell hres 5).trans rfl; have hf0 := blk_frozen hres 0; have hf1 := blk_frozen hres 1; have hf2 := blk_frozen hres 2; have hf3 := blk_frozen hres 3; have hf4 := blk_frozen hres 4; have hf5 := blk_frozen hres 5
      have ha0 : wr.cell? ⟨w.heap.size, 0, none⟩ = some (.string s0) := (blk_cell hba 0).trans rfl; have ha1 : wr.cell? ⟨w.heap.size, 1, none⟩ = some (.int .i64 n1) := (blk_cell hba 1).trans rfl; have ha2 : wr.cell? ⟨w.heap.size, 2, none⟩ = some (.string s2) := (blk_cell hba 2).trans rfl; have ha3 : wr.cell? ⟨w.heap.size, 3, none⟩ = some (.int .i64 n3) := (blk_cell hba 3).trans rfl; have ha4 : wr.cell? ⟨w.heap.size, 4, none⟩ = some (.int .i64 n4) := (blk_cell hba 4).trans rfl; have ha5 : wr.cell? ⟨w.heap.size, 5, none⟩ = some (.slice AV nv cv) := (blk_cell hba 5).trans rfl
      have hlr := blk_lt hres
      have HRS := Aside0.mk hres
      have HOW := Aside0.mk how
      have HV0 := Aside0.mk hv0
      have HKK := Aside0.mk hkk
      have HBL := Aside0.mk hbel
      clear hba hres how hv0 hkk hbel HC
      go_wp2_with fail
      refine ret_gen fun W hW => ?_
      have hRes := (congrArg (fun x : World => x.heap[w.heap.size + 1]?) hW).trans (blk_six HRS.out _ _ _ _ _ _)
      have hKW : KeepBut wr W (w.heap.size + 1) none := by
        rw [hW]
        repeat (first | (with_reducible exact KeepBut.refl _ _ _) | (with_reducible apply KeepBut.set_))
      have hBW : Below w.heap.size w W := by
        rw [hW]
        exact (((((HBL.out.setCell (Nat.le_succ _) _).setCell (Nat.le_succ _) _).setCell (Nat.le_succ _) _).setCell (Nat.le_succ _) _).setCell (Nat.le_succ _) _).setCell (Nat.le_succ _) _
      have hq0 := (blk_cell hRes 0).trans rfl; have hq1 := (blk_cell hRes 1).trans rfl; have hq2 := (blk_cell hRes 2).trans rfl; have hq3 := (blk_cell hRes 3).trans rfl; have hq4 := (blk_cell hRes 4).trans rfl; have hq5 := (blk_cell hRes 5).trans rfl
      clear hW
      have htk : (kids ex).take i = kids ex := List.take_of_length_le (by have := HN.out; omega)
      have hTW : Tr W w.heap.size ex (head ex ++ [.slice AV nv cv]) := by
        refine Tr.shut (base := w.heap.size + 2) (kss := kks) ?_ (fun h => HV0.out (by have := HN.out; omega)) (by omega) ?_
        · rw [HN.out]
          exact own_keep HOW.out (fun g hg hlt => hKW.2 g hlt (by have := (own_lt HOW.out g hg).1; omega) (by simp))
        · have h := HKK.out
          rw [htk] at h
          exact TrPs.mono (P := fun k => w.heap.size + 2 ≤ k) (fun k _ h => by omega) (TrPs.keep (w := wr) (fun k _ hP hk => hKW.2 k (blk_lt hk) (by omega) (by simp)) (TrPs.mono (fun k _ h => h.1) h))
      rw [HH.out] at hTW
      refine bodyPost_ret (v := .agg #[.string s0, .int .i64 n1, .string s2, .int .i64 n3, .int .i64 n4, .slice AV nv cv]) (by simp [results, Tryz.results85, go_sem, hq0, hq1, hq2, hq3, hq4, hq5]; try rfl) rfl ⟨⟨_, _, _, _, _, _, _, _, rfl, hTW⟩, hBW⟩
theorem copied_calls (ex : Ex) (lo : Nat) (cs : List Value) (w : World) (hT : Tr w lo ex cs) : Calls Tryz.prog 85 #[.agg cs.toArray] w fun e w' => (∃ (s0 : ByteArray) (n1 : Int) (s2 : ByteArray) (n3 n4 : Int) (A : Option Addr) (n c : Nat), e = .returned (.agg #[.string s0, .int .i64 n1, .string s2, .int .i64 n3, .int .i64 n4, .slice A n c]) ∧ Tr w' w.heap.size ex [.string s0, .int .i64 n1, .string s2, .int .i64 n3, .int .i64 n4, .slice A n c]) ∧ Below w.heap.size w w' := by
  have h : ∀ m, ∀ ex : Ex, sz ex < m → ∀ (lo : Nat) (cs : List Value) (w : World), Tr w lo ex cs → Calls Tryz.prog 85 #[.agg cs.toArray] w fun e w' => (∃ (s0 : ByteArray) (n1 : Int) (s2 : ByteArray) (n3 n4 : Int) (A : Option Addr) (n c : Nat), e = .returned (.agg #[.string s0, .int .i64 n1, .string s2, .int .i64 n3, .int .i64 n4, .slice A n c]) ∧ Tr w' w.heap.size ex [.string s0, .int .i64 n1, .string s2, .int .i64 n3, .int .i64 n4, .slice A n c]) ∧ Below w.heap.size w w' := by
    intro m
    induction m with
    | zero => intro ex h; exact absurd h (by omega)
    | succ m ih => intro ex h lo cs w hT; exact copied_step m ih ex h lo cs w hT
  exact h (sz ex + 1) ex (by omega) lo cs w hT
end Go.Proofs.YtjllmamblkejjaaGreatDoor
end

/- Code in memory; (*acode.Code).add and here. No conditions. -/
section
set_option linter.unusedVariables false
set_option linter.unusedSimpArgs false
namespace Go.Proofs.YtjllmamblkejjaaGreatDoor
open Go.RowKit Go.Proofs.YtjllmamblkejjaaGreatDoorW.PrintWords Go.Proofs.YtjllmamblkejjaaGreatDoorW.PrintLast Go.Proofs.YtjllmamblkejjaaGreatDoorW.PrintMore
open PQA Sp

def icells (i : I) : List Value := [.int .i64 (i.op : Int), .int .i64 i.n, .string (mk i.name), .string (mk i.by_), .int .i64 (i.pos : Int), .int .i64 (i.dest : Int)]
def flat (l : List I) : List Value := (l.map icells).flatten
theorem infoI : (Tryz.prog.info? 141).map (fun i => (i.zero, i.size, i.bytes)) = some (some (.agg #[.int .i64 0, .int .i64 0, .string ⟨#[]⟩, .string ⟨#[]⟩, .int .i64 0, .int .i64 0]), 6, 64) := by kernel_rfl
theorem own_ne {w : World} {base : Nat} {e : TypeId} {size n : Nat} {v : Value} {xs : List Value} (h : w.ownsRow base e size v n xs) {g : Nat} {cs : Array Value} {t : TypeId} (hg : w.heap[g]? = some (.cells cs t (0, 0))) (ht : t ≠ e) : some g ≠ v.ownBlock := by
  intro e'
  rcases h.2 with ⟨rfl, _⟩ | ⟨g', cap, cur, rfl, hb, hh, _⟩
  · simp [Value.ownBlock] at e'
  · obtain rfl : g = g' := by simpa [Value.ownBlock] using e'
    exact blk_ne hg hh ht rfl
/-- append(l, i): one instruction more, at a step of a region that draws. -/
theorem step_instr {ops : Array Oper} {o : Oper} {a : Act} {Q : Exit → Act → World → Prop} {K : Act → World → Prop} {W : World} (base : Nat) (hw : Region.wanted o (yielded ops a.tmps) = true) (s x : Operand)
    (ho : o.op = .call { callee := .builtin .append, args := #[s, x], argTypes := #[103, 103] })
    (v : Value) (n : Nat) (xs ys : List Value) (hs : a.eval s = v) (B : Nat) (hB : W.heap.size = B) (hx : a.eval x = .slice (some ⟨B, 0, none⟩) 1 1) (hys : ys.length = 6) (h1 : ∀ u ∈ ys, u.oneCell' = true)
    (HO : W.ownsRow base 141 6 v n xs) (hbase : base ≤ W.heap.size) (hl : n ≤ 1000000)
    (h : ∀ v1 w1, w1.ownsRow base 141 6 v1 (n + 1) (xs ++ ys) → W.grownBy w1 v.ownBlock → (v1.ownBlock = v.ownBlock ∨ ∃ b, v1.ownBlock = some b ∧ W.heap.size ≤ b) → K (a.put o.dst v1) w1) :
    if Region.wanted o (yielded ops a.tmps) = true then Oper.wp Tryz.prog o a (W.alloc (.cells ys.toArray 141)) K Q else K (a.put o.dst undef) (W.alloc (.cells ys.toArray 141)) := by
  subst hB
  exact step_append_cells (w0 := W) base hw s x 103 141 _ 6 64 ho Tryz.underlying103 infoI rfl (by omega) (by omega) v n xs ys hs hx hys h1 HO (Below.refl _ _) hbase (by omega) fun v1 w1 a1 _ a3 a4 => h v1 w1 a1 a3 a4

/-- The code at block g: its instructions lie in a row of its own, at or above base. -/
structure CodeAt (w : World) (base g : Nat) (l : List I) : Prop where
  made : ∃ v, w.heap[g]? = some (.cells #[v] 105 (0, 0)) ∧ w.ownsRow base 141 6 v l.length (flat l) ∧ (l = [] → v = .slice none 0 0)
  ge : base ≤ g
/-- What a call on the code may turn: the code's own block, rows of instructions, new memory. -/
structure CodeKeep (base g : Nat) (w w' : World) : Prop where
  below : Below base w w'
  block : ∀ k cs ty, w.heap[k]? = some (.cells cs ty (0, 0)) → ty ≠ 141 → k ≠ g → w'.heap[k]? = w.heap[k]?
theorem CodeKeep.refl (base g : Nat) (w : World) : CodeKeep base g w w := ⟨Below.refl _ _, fun _ _ _ _ _ _ => rfl⟩
theorem CodeKeep.trans {base g : Nat} {w w1 w2 : World} (h : CodeKeep base g w w1) (k : CodeKeep base g w1 w2) : CodeKeep base g w w2 :=
  ⟨⟨k.below.os.trans h.below.os, k.below.tape.trans h.below.tape, k.below.output.trans h.below.output, Nat.le_trans h.below.size k.below.size, fun i hi => (k.below.block i hi).trans (h.below.block i hi)⟩,
   fun i cs ty hi ht hg => (k.block i cs ty ((h.block i cs ty hi ht hg).trans hi) ht hg).trans (h.block i cs ty hi ht hg)⟩
theorem Tr.code {w w' : World} {base g lo : Nat} {ex : Ex} {cs : List Value} {gc : Array Value} (h : Tr w lo ex cs) (hk : CodeKeep base g w w') (hg : w.heap[g]? = some (.cells gc 105 (0, 0))) : Tr w' lo ex cs :=
  Tr.keep (fun k _ _ hc => hk.block k _ _ hc (by decide) (blk_ne hc hg (by decide))) ex cs h

set_option maxHeartbeats 4000000 in
set_option maxRecDepth 100000 in
theorem add_calls (base g : Nat) (l : List I) (i : I) (w : World) (hC : CodeAt w base g l) (hl : l.length ≤ 1000000) :
    Calls Tryz.prog 82 #[.pointer (some ⟨g, 0, none⟩), .agg (icells i).toArray] w fun e w' => e = .returned (.int .i64 (l.length : Int)) ∧ CodeAt w' base g (l ++ [i]) ∧ CodeKeep base g w w' := by
  obtain ⟨⟨v, hg, how, hv0⟩, hge⟩ := hC
  show Calls _ _ #[_, .agg #[.int .i64 (i.op : Int), .int .i64 i.n, .string (mk i.name), .string (mk i.by_), .int .i64 (i.pos : Int), .int .i64 (i.dest : Int)]] _ _
  have hv : w.cell? ⟨g, 0, none⟩ = some v := (blk_cell hg 0).trans rfl
  have hlt := blk_lt hg
  have hfz := blk_frozen hg 0
  go_enter Tryz.func82, Tryz.ntmps82
  go_wp2_with fail
  have HO := Aside0.mk (own_keep (w' := (w.alloc (.cells #[.int .i64 (i.op : Int), .int .i64 i.n, .string (mk i.name), .string (mk i.by_), .int .i64 (i.pos : Int), .int .i64 (i.dest : Int)] 141)).drew) how (fun g hg hlt => Below.heap_alloc w _ g hlt))
  have HOW := Aside0.mk how
  have HG := Aside0.mk hg
  have hbs := hge
  clear how hg
  go_region_law ((refine step_instr (W := (w.alloc (.cells #[.int .i64 (i.op : Int), .int .i64 i.n, .string (mk i.name), .string (mk i.by_), .int .i64 (i.pos : Int), .int .i64 (i.dest : Int)] 141)).drew) base (by simp [Region.wanted]) (.tmp 9) (.tmp 11) rfl v l.length (flat l) [.int .i64 (i.op : Int), .int .i64 i.n, .string (mk i.name), .string (mk i.by_), .int .i64 (i.pos : Int), .int .i64 (i.dest : Int)] rfl (w.heap.size + 1) (by simp) rfl rfl (by simp [Value.oneCell']) HO.out (by simp; omega) hl ?_; intro v1 w6 ho6 hg6 hat6; obtain ⟨g6, cap6, rfl, hge6, hlt6⟩ := World.ownsRow.form ho6 (by omega); have hb6 : w6.heap[g]? = some (.cells #[v] 105 (0, 0)) := (hg6.block g (by simp; omega) (own_ne HOW.out HG.out (by decide))).trans (blk_alloc HG.out _); have hv6 : w6.cell? ⟨g, 0, none⟩ = some v := (blk_cell hb6 0).trans rfl; have hf6 := blk_frozen hb6 0; have hlg6 := blk_lt hb6; have HB6 := Aside0.mk hb6; have HO6 := Aside0.mk ho6; have HG6 := Aside0.mk hg6; have HAT6 := Aside0.mk hat6; clear ho6 hg6 hat6 hb6))
  all_goals
    have hln : IntKind.i64.wrap ((l.length : Int) + 1 - 1) = (l.length : Int) := by rw [Int.add_sub_cancel]; exact IntWalk.i64_in _ (by omega)
    go_wp2_with fail
    have hne6 := own_ne HO6.out HB6.out (by decide)
    refine bodyPost_ret (v := .int .i64 (l.length : Int)) (by simp [results, Tryz.results82, go_sem]) rfl ⟨rfl, ⟨⟨_, blk_set HB6.out 0 _, ?_, fun h => absurd h (by simp)⟩, hge⟩, ?_, ?_⟩
    · have h := own_keep (w' := w6.setCell ⟨g, 0, none⟩ (.slice (some ⟨g6, 0, none⟩) (l.length + 1) cap6)) HO6.out (fun q hq hlt => Below.heap_setCell w6 ⟨g, 0, none⟩ _ q (fun e => hne6 (by rw [hq]; exact congrArg some e.symm)))
      have hf : flat (l ++ [i]) = flat l ++ [.int .i64 (i.op : Int), .int .i64 i.n, .string (mk i.name), .string (mk i.by_), .int .i64 (i.pos : Int), .int .i64 (i.dest : Int)] := by simp [flat, icells]
      rw [hf, List.length_append]
      exact h
    · refine Below.setCell (grown_below (below_drew1 ((Below.refl base w).alloc (by omega) _)) HG6.out (by simp; omega) (fun q hq => (own_lt HOW.out q hq).1)) hge _
    · intro k cs ty hk ht hkg
      exact (Below.heap_setCell w6 ⟨g, 0, none⟩ _ k hkg).trans ((HG6.out.block k (by have := blk_lt hk; simp; omega) (own_ne HOW.out hk ht)).trans (Below.heap_alloc w _ k (blk_lt hk)))
end Go.Proofs.YtjllmamblkejjaaGreatDoor
end

/- (*acode.Code).here. No conditions. -/
section
set_option linter.unusedVariables false
set_option linter.unusedSimpArgs false
namespace Go.Proofs.YtjllmamblkejjaaGreatDoor
open Go.RowKit Go.Proofs.YtjllmamblkejjaaGreatDoorW.PrintWords Go.Proofs.YtjllmamblkejjaaGreatDoorW.PrintLast Go.Proofs.YtjllmamblkejjaaGreatDoorW.PrintMore
open PQA Sp

theorem icells_len (i : I) : (icells i).length = 6 := rfl
theorem flat_length (l : List I) : (flat l).length = l.length * 6 := by
  have := flat_len (l.map icells) (by intro k hk; obtain ⟨i, _, rfl⟩ := List.mem_map.1 hk; rfl)
  rw [List.length_map] at this
  exact this
theorem flat_get (l : List I) (a j : Nat) (i : I) (h : l[a]? = some i) (hj : j < 6) : (flat l)[a * 6 + j]? = (icells i)[j]? :=
  flat_at (l.map icells) (by intro k hk; obtain ⟨i, _, rfl⟩ := List.mem_map.1 hk; rfl) a j (icells i) (by rw [List.getElem?_map, h]; rfl) hj
theorem flat_patch : ∀ (l : List I) (a n : Nat), a < l.length → flat (l.modify a fun i => { i with dest := n }) = (flat l).set (a * 6 + 5) (.int .i64 (n : Int))
  | i :: l, 0, n, _ => by simp [flat, icells, List.modify]
  | i :: l, a + 1, n, h => by
    have ih := flat_patch l a n (by simpa using h)
    have h1 : flat (i :: l) = icells i ++ flat l := by simp [flat]
    have h2 : flat ((i :: l).modify (a + 1) fun i => { i with dest := n }) = icells i ++ flat (l.modify a fun i => { i with dest := n }) := by simp [flat, List.modify]
    rw [h1, h2, ih, List.set_append_right _ _ (by rw [icells_len]; omega), icells_len]
    congr 2
    omega

set_option maxHeartbeats 4000000 in
set_option maxRecDepth 100000 in
theorem here_calls (base g : Nat) (l : List I) (a : Nat) (w : World) (hC : CodeAt w base g l) (ha : a < l.length) (hl : l.length ≤ 1000000) :
    Calls Tryz.prog 83 #[.pointer (some ⟨g, 0, none⟩), .int .i64 (a : Int)] w fun e w' => e = .returned (.tuple #[]) ∧ CodeAt w' base g (patch l a) ∧ CodeKeep base g w w' := by
  obtain ⟨⟨v, hg, how, hv0⟩, hge⟩ := hC
  have hlt := blk_lt hg
  have how' := how
  rcases how'.2 with ⟨_, h0⟩ | ⟨gr, cap, cur, rfl, hb, hr, hnc, hcap, hcs, htk⟩
  · omega
  have hv : w.cell? ⟨g, 0, none⟩ = some (.slice (some ⟨gr, 0, none⟩) l.length cap) := (blk_cell hg 0).trans rfl
  have hlr := blk_lt hr
  have hci : cur[a * 6 + 5]? = (flat l)[a * 6 + 5]? := by
    rw [← htk, List.getElem?_take_of_lt (by omega)]; simp
  obtain ⟨x, hx⟩ : ∃ x : I, l[a]? = some x := ⟨l[a], List.getElem?_eq_getElem ha⟩
  have hc5 : w.cell? ⟨gr, a * 6 + 5, none⟩ = some (.int .i64 (x.dest : Int)) := (blk_cell hr _).trans (hci.trans (flat_get l a 5 x hx (by omega)))
  have hf5 := blk_frozen hr (a * 6 + 5)
  have hia : decide ((a : Int) < (l.length : Int)) = true := by simp; omega
  have hne1 : ¬ gr = g := fun e => by have := own_ne how hg (by decide); exact this (by rw [← e]; rfl)
  have hne2 : ¬ g = gr := fun e => hne1 e.symm
  have HOW := Aside0.mk how
  have HG := Aside0.mk hg
  have HR := Aside0.mk (And.intro hr (And.intro hcs htk))
  have HX := Aside0.mk hx
  have hbs := hge
  clear how how' hg hr hcs htk hci hv0 hx
  go_enter Tryz.func83, Tryz.ntmps83
  go_wp2_with fail
  go_region_held3 (fun W => W.cell? ⟨g, 0, none⟩ = some (.slice (some ⟨gr, 0, none⟩) l.length cap)) (go_keep) (fail)
  all_goals
    rename_i hHeld
    clear hHeld
    go_wp2_with fail
    go_end0
    obtain ⟨hr, hcs, htk⟩ := HR.out
    have hpl : (patch l a).length = l.length := by simp [patch]
    refine ⟨rfl, ⟨⟨.slice (some ⟨gr, 0, none⟩) l.length cap, (Below.heap_setCell w ⟨gr, a * 6 + 5, none⟩ _ g hne2).trans HG.out, ⟨flat_length _, .inr ⟨gr, cap, cur.setIfInBounds (a * 6 + 5) (.int .i64 (l.length : Int)), by rw [hpl], hb, blk_set hr _ _, by omega, hcap, by simpa using hcs, ?_⟩⟩, fun h => ?_⟩, hge⟩, ?_, ?_⟩
    · rw [hpl, Array.toList_setIfInBounds, List.take_set, htk]
      exact (flat_patch l a l.length ha).symm
    · rw [h] at hpl; simp at hpl; omega
    · exact below_drew1 ((Below.refl base w).setCell hb _)
    · intro k cs ty hk ht hkg
      exact Below.heap_setCell w ⟨gr, a * 6 + 5, none⟩ _ k (blk_ne hk hr ht)
end Go.Proofs.YtjllmamblkejjaaGreatDoor
end

/- (*acode.Code).put and rest: the spec's compiler, and what they come to. No conditions. -/
section
set_option linter.unusedVariables false
set_option linter.unusedSimpArgs false
namespace Go.Proofs.YtjllmamblkejjaaGreatDoor
open Go.RowKit Go.Proofs.YtjllmamblkejjaaGreatDoorW.PrintWords Go.Proofs.YtjllmamblkejjaaGreatDoorW.PrintLast Go.Proofs.YtjllmamblkejjaaGreatDoorW.PrintMore
open PQA Sp

/-- What a compiling call comes to. -/
def PutAt (base g : Nat) (ex : Ex) : Prop := ∀ (lo : Nat) (cs : List Value) (l : List I) (w : World), Tr w lo ex cs → CodeAt w base g l → l.length + 5 * sz ex ≤ 1000000 →
  Calls Tryz.prog 49 #[.pointer (some ⟨g, 0, none⟩), .agg cs.toArray] w fun e w' => e = .returned (.tuple #[]) ∧ CodeAt w' base g (put l ex) ∧ CodeKeep base g w w'

theorem CodeKeep.alloc {base g : Nat} {w W : World} (h : CodeKeep base g w W) (hb : base ≤ W.heap.size) (o : Obj) : CodeKeep base g w (W.alloc o) :=
  ⟨h.below.alloc hb o, fun k cs ty hk ht hg => by
    have h1 := h.block k cs ty hk ht hg
    exact (Below.heap_alloc W o k (blk_lt (h1.trans hk))).trans h1⟩
theorem CodeAt.alloc {base g : Nat} {w : World} {l : List I} (h : CodeAt w base g l) (o : Obj) : CodeAt (w.alloc o) base g l := by
  obtain ⟨⟨v, hg, how, hv⟩, hge⟩ := h
  exact ⟨⟨v, blk_alloc hg o, own_keep how (fun q _ hq => Below.heap_alloc w o q hq), hv⟩, hge⟩
theorem CodeAt.lt {base g : Nat} {w : World} {l : List I} (h : CodeAt w base g l) : base ≤ g ∧ g < w.heap.size := by
  obtain ⟨⟨v, hg, _⟩, hge⟩ := h
  exact ⟨hge, blk_lt hg⟩
/-- The code at g has come to l; what was there in w lies there still. -/
structure CS (base g : Nat) (w W : World) (l : List I) : Prop where
  code : CodeAt W base g l
  keep : CodeKeep base g w W
theorem CS.refl {base g : Nat} {w : World} {l : List I} (h : CodeAt w base g l) : CS base g w w l := ⟨h, CodeKeep.refl _ _ _⟩
theorem CS.alloc {base g : Nat} {w W : World} {l : List I} (h : CS base g w W l) (o : Obj) : CS base g w (W.alloc o) l :=
  ⟨h.code.alloc o, h.keep.alloc (by have := h.code.lt; omega) o⟩
theorem CS.drew {base g : Nat} {w W : World} {l : List I} (h : CS base g w W l) : CS base g w W.drew l :=
  ⟨⟨h.code.made, h.code.ge⟩, ⟨below_drew1 h.keep.below, h.keep.block⟩⟩
theorem CS.drewN {base g : Nat} {w W : World} {l : List I} (h : CS base g w W l) (n : Nat) : CS base g w (W.drewN n) l :=
  ⟨⟨h.code.made, h.code.ge⟩, ⟨pw_below_drewN h.keep.below n, h.keep.block⟩⟩
theorem add_cs {base g : Nat} {w W : World} {l : List I} (h : CS base g w W l) (hl : l.length ≤ 1000000) (i : I) (v0 v1 v2 v3 v4 v5 : Value) (hi : icells i = [v0, v1, v2, v3, v4, v5]) :
    Calls Tryz.prog 82 #[.pointer (some ⟨g, 0, none⟩), .agg #[v0, v1, v2, v3, v4, v5]] W fun e w' => e = .returned (.int .i64 (l.length : Int)) ∧ CS base g w w' (l ++ [i]) := by
  have := add_calls base g l i W h.code hl
  rw [hi] at this
  exact this.mono fun e w' ⟨he, hc, hk⟩ => ⟨he, hc, h.keep.trans hk⟩
theorem put_cs {base g : Nat} {w W : World} {l : List I} {ex : Ex} (hp : PutAt base g ex) (h : CS base g w W l) (hl : l.length + 5 * sz ex ≤ 1000000) (lo : Nat) (v0 v1 v2 v3 v4 v5 : Value) (hT : Tr W lo ex [v0, v1, v2, v3, v4, v5]) :
    Calls Tryz.prog 49 #[.pointer (some ⟨g, 0, none⟩), .agg #[v0, v1, v2, v3, v4, v5]] W fun e w' => e = .returned (.tuple #[]) ∧ CS base g w w' (put l ex) :=
  (hp lo _ l W hT h.code hl).mono fun e w' ⟨he, hc, hk⟩ => ⟨he, hc, h.keep.trans hk⟩
theorem here_cs {base g : Nat} {w W : World} {l : List I} (h : CS base g w W l) (a : Nat) (ha : a < l.length) (hl : l.length ≤ 1000000) :
    Calls Tryz.prog 83 #[.pointer (some ⟨g, 0, none⟩), .int .i64 (a : Int)] W fun e w' => e = .returned (.tuple #[]) ∧ CS base g w w' (patch l a) :=
  (here_calls base g l a W h.code ha hl).mono fun e w' ⟨he, hc, hk⟩ => ⟨he, hc, h.keep.trans hk⟩

set_option maxHeartbeats 4000000 in
set_option maxRecDepth 100000 in
theorem put_num (base g : Nat) (n pos : Nat) : PutAt base g (.num n pos) := by
  intro lo cs l w hT hC hl
  obtain rfl : cs = hd wNum n [] pos 0 (.slice none 0 0) := hT
  have HC := Aside0.mk (CS.refl hC)
  clear hC
  have h0 := op_yes (op := wNum) (v := [110, 117, 109]) rfl
  show Calls _ _ #[_, .agg #[.string (mk wNum), .int .i64 (n : Int), .string (mk []), .int .i64 (pos : Int), .int .i64 ((0 : Nat) : Int), .slice none 0 0]] _ _
  go_enter Tryz.func49, Tryz.ntmps49
  go_wp2_with fail
  with_reducible refine (add_cs (HC.out.alloc _) (by omega) (J 0 n) _ _ _ _ _ _ (by simp [icells, mk])).mono ?_
  rintro e w1 ⟨rfl, hc⟩
  go_wp2_with fail
  go_end0
  exact ⟨rfl, hc.code, hc.keep⟩
set_option maxHeartbeats 4000000 in
set_option maxRecDepth 100000 in
theorem put_name (base g : Nat) (x : Bs) (pos : Nat) : PutAt base g (.name x pos) := by
  intro lo cs l w hT hC hl
  obtain rfl : cs = hd wName 0 x pos 0 (.slice none 0 0) := hT
  have HC := Aside0.mk (CS.refl hC)
  clear hC
  have h0 := op_no (op := wName) (v := [110, 117, 109]) (by decide)
  have h1 := op_yes (op := wName) (v := [110, 97, 109, 101]) rfl
  show Calls _ _ #[_, .agg #[.string (mk wName), .int .i64 ((0 : Nat) : Int), .string (mk x), .int .i64 (pos : Int), .int .i64 ((0 : Nat) : Int), .slice none 0 0]] _ _
  go_enter Tryz.func49, Tryz.ntmps49
  go_wp2_with fail
  with_reducible refine (add_cs (HC.out.alloc _) (by omega) ⟨1, 0, x, [], pos, 0⟩ _ _ _ _ _ _ (by simp [icells, mk])).mono ?_
  rintro e w1 ⟨rfl, hc⟩
  go_wp2_with fail
  go_end0
  exact ⟨rfl, hc.code, hc.keep⟩
theorem tr_alloc {w : World} {lo : Nat} {ex : Ex} {cs : List Value} (h : Tr w lo ex cs) (o : Obj) : Tr (w.alloc o) lo ex cs := h.below (below_alloc (Below.refl _ _) o)
set_option maxHeartbeats 4000000 in
set_option maxRecDepth 100000 in
theorem put_un (base g : Nat) (op : Bs) (pos : Nat) (e : Ex) (hop : op = [117, 43] ∨ op = [117, 45] ∨ op = [33] ∨ op = [126]) (ih : PutAt base g e) : PutAt base g (.un op pos e) := by
  intro lo cs l w hT hC hl
  obtain ⟨b, c, k, z, hb, hc, hh, rfl, hTk⟩ := hT
  obtain ⟨t0, m1, t2, m3, m4, AA, ll, cc, rfl⟩ := hTk.six
  have hblt := blk_lt hh
  have hx0 : w.cell? ⟨b, 0, none⟩ = some (.string t0) := (blk_cell hh 0).trans rfl
  have hx1 : w.cell? ⟨b, 1, none⟩ = some (.int .i64 m1) := (blk_cell hh 1).trans rfl
  have hx2 : w.cell? ⟨b, 2, none⟩ = some (.string t2) := (blk_cell hh 2).trans rfl
  have hx3 : w.cell? ⟨b, 3, none⟩ = some (.int .i64 m3) := (blk_cell hh 3).trans rfl
  have hx4 : w.cell? ⟨b, 4, none⟩ = some (.int .i64 m4) := (blk_cell hh 4).trans rfl
  have hx5 : w.cell? ⟨b, 5, none⟩ = some (.slice AA ll cc) := (blk_cell hh 5).trans rfl
  have hsz : sz (.un op pos e) = sz e + 1 := rfl
  have hgl := hC.lt
  have hpl := put_len e l
  have HC := Aside0.mk (CS.refl (hC.alloc (.cells #[.string (mk op), .int .i64 0, .string (mk []), .int .i64 (pos : Int), .int .i64 0, .slice (some ⟨b, 0, none⟩) 1 c] 63)))
  have HK := Aside0.mk ((CodeKeep.refl base g w).alloc (by omega) (.cells #[.string (mk op), .int .i64 0, .string (mk []), .int .i64 (pos : Int), .int .i64 0, .slice (some ⟨b, 0, none⟩) 1 c] 63))
  have HT := Aside0.mk (tr_alloc hTk (.cells #[.string (mk op), .int .i64 0, .string (mk []), .int .i64 (pos : Int), .int .i64 0, .slice (some ⟨b, 0, none⟩) 1 c] 63))
  clear hC hh hTk
  show Calls _ _ #[_, .agg #[.string (mk op), .int .i64 ((0 : Nat) : Int), .string (mk []), .int .i64 (pos : Int), .int .i64 ((0 : Nat) : Int), .slice (some ⟨b, 0, none⟩) 1 c]] _ _
  have h0 := op_no (op := op) (v := [110, 117, 109]) (by rcases hop with rfl | rfl | rfl | rfl <;> decide)
  have h1 := op_no (op := op) (v := [110, 97, 109, 101]) (by rcases hop with rfl | rfl | rfl | rfl <;> decide)
  have h2 := op_is op [117, 43]
  have h3 := op_is op [117, 45]
  have h4 := op_is op [33]
  have h5 := op_is op [126]
  rcases hop with hop | hop | hop | hop
  · rw [decide_eq_true hop] at h2; clear h3; clear h4; clear h5; clear hop
    go_enter Tryz.func49, Tryz.ntmps49
    go_wp2_with fail
    with_reducible refine (put_cs ih HC.out (by omega) lo _ _ _ _ _ _ HT.out).mono ?_
    rintro e' w1 ⟨rfl, hc1⟩
    have hp1 := (hc1.keep.block w.heap.size _ _ (heap_new rfl _) (by decide) (by omega)).trans (heap_new rfl _)
    have hq0 : w1.cell? ⟨w.heap.size, 0, none⟩ = some (.string (mk op)) := (blk_cell hp1 0).trans rfl
    have HC1 := Aside0.mk hc1
    clear hc1 hp1
    go_wp2_with fail
    with_reducible refine (add_cs HC1.out (by omega) ⟨3, 0, [], op, 0, 0⟩ _ _ _ _ _ _ (by simp [icells, mk])).mono ?_
    rintro e' w2 ⟨rfl, hc2⟩
    go_wp2_with fail
    go_end0
    exact ⟨rfl, hc2.code, HK.out.trans hc2.keep⟩
  · rw [decide_eq_false (by rw [hop]; decide)] at h2; rw [decide_eq_true hop] at h3; clear h4; clear h5; clear hop
    go_enter Tryz.func49, Tryz.ntmps49
    go_wp2_with fail
    with_reducible refine (put_cs ih HC.out (by omega) lo _ _ _ _ _ _ HT.out).mono ?_
    rintro e' w1 ⟨rfl, hc1⟩
    have hp1 := (hc1.keep.block w.heap.size _ _ (heap_new rfl _) (by decide) (by omega)).trans (heap_new rfl _)
    have hq0 : w1.cell? ⟨w.heap.size, 0, none⟩ = some (.string (mk op)) := (blk_cell hp1 0).trans rfl
    have HC1 := Aside0.mk hc1
    clear hc1 hp1
    go_wp2_with fail
    with_reducible refine (add_cs HC1.out (by omega) ⟨3, 0, [], op, 0, 0⟩ _ _ _ _ _ _ (by simp [icells, mk])).mono ?_
    rintro e' w2 ⟨rfl, hc2⟩
    go_wp2_with fail
    go_end0
    exact ⟨rfl, hc2.code, HK.out.trans hc2.keep⟩
  · rw [decide_eq_false (by rw [hop]; decide)] at h2; rw [decide_eq_false (by rw [hop]; decide)] at h3; rw [decide_eq_true hop] at h4; clear h5; clear hop
    go_enter Tryz.func49, Tryz.ntmps49
    go_wp2_with fail
    with_reducible refine (put_cs ih HC.out (by omega) lo _ _ _ _ _ _ HT.out).mono ?_
    rintro e' w1 ⟨rfl, hc1⟩
    have hp1 := (hc1.keep.block w.heap.size _ _ (heap_new rfl _) (by decide) (by omega)).trans (heap_new rfl _)
    have hq0 : w1.cell? ⟨w.heap.size, 0, none⟩ = some (.string (mk op)) := (blk_cell hp1 0).trans rfl
    have HC1 := Aside0.mk hc1
    clear hc1 hp1
    go_wp2_with fail
    with_reducible refine (add_cs HC1.out (by omega) ⟨3, 0, [], op, 0, 0⟩ _ _ _ _ _ _ (by simp [icells, mk])).mono ?_
    rintro e' w2 ⟨rfl, hc2⟩
    go_wp2_with fail
    go_end0
    exact ⟨rfl, hc2.code, HK.out.trans hc2.keep⟩
  · rw [decide_eq_false (by rw [hop]; decide)] at h2; rw [decide_eq_false (by rw [hop]; decide)] at h3; rw [decide_eq_false (by rw [hop]; decide)] at h4; rw [decide_eq_true hop] at h5; clear hop
    go_enter Tryz.func49, Tryz.ntmps49
    go_wp2_with fail
    with_reducible refine (put_cs ih HC.out (by omega) lo _ _ _ _ _ _ HT.out).mono ?_
    rintro e' w1 ⟨rfl, hc1⟩
    have hp1 := (hc1.keep.block w.heap.size _ _ (heap_new rfl _) (by decide) (by omega)).trans (heap_new rfl _)
    have hq0 : w1.cell? ⟨w.heap.size, 0, none⟩ = some (.string (mk op)) := (blk_cell hp1 0).trans rfl
    have HC1 := Aside0.mk hc1
    clear hc1 hp1
    go_wp2_with fail
    with_reducible refine (add_cs HC1.out (by omega) ⟨3, 0, [], op, 0, 0⟩ _ _ _ _ _ _ (by simp [icells, mk])).mono ?_
    rintro e' w2 ⟨rfl, hc2⟩
    go_wp2_with fail
    go_end0
    exact ⟨rfl, hc2.code, HK.out.trans hc2.keep⟩
end Go.Proofs.YtjllmamblkejjaaGreatDoor
end
