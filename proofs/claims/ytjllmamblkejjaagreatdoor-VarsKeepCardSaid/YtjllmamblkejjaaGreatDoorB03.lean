/- A part of the proof: texts of ours, joined by a program, each in a section of its own; what each proves, and under what conditions, stands ahead of it. -/
import Derived.Test.YtjllmamblkejjaaGreatDoorB02
import Derived.Maps.RangeWalk
import Derived.Maps.StringElems
import Derived.Deep.LoopGhost
import Derived.Deep.DeepCutAuto
import Derived.Deep.QuietTactic
import Derived.BigQuiet
import Derived.Deep.CutBlock
import Derived.Lib.ConvBytes
import Derived.Maps.OwnSet
import Derived.WalkSpells

/- (*acode.Code).put and rest at trees of more kids than one. No conditions. -/
section
set_option linter.unusedVariables false
set_option linter.unusedSimpArgs false
namespace Go.Proofs.YtjllmamblkejjaaGreatDoor
open Go.RowKit Go.Proofs.YtjllmamblkejjaaGreatDoorW.PrintWords Go.Proofs.YtjllmamblkejjaaGreatDoorW.PrintLast Go.Proofs.YtjllmamblkejjaaGreatDoorW.PrintMore
open PQA Sp
theorem CS.tr {base g : Nat} {w W : World} {l l0 : List I} (h : CS base g w W l) (h0 : CodeAt w base g l0) {lo : Nat} {ex : Ex} {cs : List Value} (hT : Tr w lo ex cs) : Tr W lo ex cs := by
  obtain ⟨⟨v, hg, _⟩, _⟩ := h0
  exact hT.code h.keep hg

set_option maxHeartbeats 4000000 in
set_option maxRecDepth 100000 in
theorem rest_bin (base g : Nat) (op : Bs) (pos : Nat) (e1 e2 : Ex) (iha : PutAt base g e1) (ihb : PutAt base g e2) (lo : Nat) (cs : List Value) (l : List I) (w : World) (hT : Tr w lo (.bin op pos e1 e2) cs) (hC : CodeAt w base g l) (hl : l.length + 5 * sz (.bin op pos e1 e2) ≤ 1000000) :
    Calls Tryz.prog 84 #[.pointer (some ⟨g, 0, none⟩), .agg cs.toArray] w fun e w' => e = .returned (.tuple #[]) ∧ CodeAt w' base g (put (put l e1) e2 ++ [⟨4, 0, [], op, pos, 0⟩]) ∧ CodeKeep base g w w' := by
  obtain ⟨b, c, k1, k2, z, hb, hc, hh, rfl, hT1, hT2⟩ := hT
  have hsz : sz (.bin op pos e1 e2) = sz e1 + sz e2 + 1 := rfl
  have hpl1 := put_len e1 l
  have hpl2 := put_len e2 (put l e1)
  obtain ⟨s10, n11, s12, n13, n14, A1, l1, c1, rfl⟩ := hT1.six
  obtain ⟨s20, n21, s22, n23, n24, A2, l2, c2, rfl⟩ := hT2.six
  have hblt := blk_lt hh
  have hgl := hC.lt
  have hgb : b ≠ g := by obtain ⟨⟨v, hg, _⟩, _⟩ := hC; exact blk_ne hh hg (by decide)
  have xw1_0 : w.cell? ⟨b, 0, none⟩ = some (.string s10) := (blk_cell hh 0).trans rfl
  have xw1_1 : w.cell? ⟨b, 1, none⟩ = some (.int .i64 n11) := (blk_cell hh 1).trans rfl
  have xw1_2 : w.cell? ⟨b, 2, none⟩ = some (.string s12) := (blk_cell hh 2).trans rfl
  have xw1_3 : w.cell? ⟨b, 3, none⟩ = some (.int .i64 n13) := (blk_cell hh 3).trans rfl
  have xw1_4 : w.cell? ⟨b, 4, none⟩ = some (.int .i64 n14) := (blk_cell hh 4).trans rfl
  have xw1_5 : w.cell? ⟨b, 5, none⟩ = some (.slice A1 l1 c1) := (blk_cell hh 5).trans rfl
  have xw2_0 : w.cell? ⟨b, 6, none⟩ = some (.string s20) := (blk_cell hh 6).trans rfl
  have xw2_1 : w.cell? ⟨b, 7, none⟩ = some (.int .i64 n21) := (blk_cell hh 7).trans rfl
  have xw2_2 : w.cell? ⟨b, 8, none⟩ = some (.string s22) := (blk_cell hh 8).trans rfl
  have xw2_3 : w.cell? ⟨b, 9, none⟩ = some (.int .i64 n23) := (blk_cell hh 9).trans rfl
  have xw2_4 : w.cell? ⟨b, 10, none⟩ = some (.int .i64 n24) := (blk_cell hh 10).trans rfl
  have xw2_5 : w.cell? ⟨b, 11, none⟩ = some (.slice A2 l2 c2) := (blk_cell hh 11).trans rfl
  have HC := Aside0.mk (CS.refl (hC.alloc (.cells #[.string (mk op), .int .i64 0, .string (mk []), .int .i64 (pos : Int), .int .i64 0, .slice (some ⟨b, 0, none⟩) 2 c] 63)))
  have HK := Aside0.mk ((CodeKeep.refl base g w).alloc (by omega) (.cells #[.string (mk op), .int .i64 0, .string (mk []), .int .i64 (pos : Int), .int .i64 0, .slice (some ⟨b, 0, none⟩) 2 c] 63))
  have HROW := Aside0.mk (blk_alloc hh (.cells #[.string (mk op), .int .i64 0, .string (mk []), .int .i64 (pos : Int), .int .i64 0, .slice (some ⟨b, 0, none⟩) 2 c] 63))
  have HT1 := Aside0.mk (tr_alloc hT1 (.cells #[.string (mk op), .int .i64 0, .string (mk []), .int .i64 (pos : Int), .int .i64 0, .slice (some ⟨b, 0, none⟩) 2 c] 63))
  have HT2 := Aside0.mk (tr_alloc hT2 (.cells #[.string (mk op), .int .i64 0, .string (mk []), .int .i64 (pos : Int), .int .i64 0, .slice (some ⟨b, 0, none⟩) 2 c] 63))
  have HCO := Aside0.mk (hC.alloc (.cells #[.string (mk op), .int .i64 0, .string (mk []), .int .i64 (pos : Int), .int .i64 0, .slice (some ⟨b, 0, none⟩) 2 c] 63))
  clear hC hh hT1 hT2
  have h0 := op_yes (op := []) (v := []) rfl
  show Calls _ _ #[_, .agg #[.string (mk op), .int .i64 ((0 : Nat) : Int), .string (mk []), .int .i64 (pos : Int), .int .i64 ((0 : Nat) : Int), .slice (some ⟨b, 0, none⟩) 2 c]] _ _
  go_enter Tryz.func84, Tryz.ntmps84
  go_wp2_with fail
  with_reducible refine (put_cs iha HC.out (by omega) lo _ _ _ _ _ _ HT1.out).mono ?_
  rintro e' w1 ⟨rfl, hc1⟩
  have hp_w1 := (hc1.keep.block w.heap.size _ _ (heap_new rfl _) (by decide) (by omega)).trans (heap_new rfl _)
  have hb_w1 := (hc1.keep.block b _ _ HROW.out (by decide) (by omega)).trans HROW.out
  have yw1_0 : w1.cell? ⟨w.heap.size, 0, none⟩ = some (.string (mk op)) := (blk_cell hp_w1 0).trans rfl
  have yw1_1 : w1.cell? ⟨w.heap.size, 1, none⟩ = some (.int .i64 0) := (blk_cell hp_w1 1).trans rfl
  have yw1_2 : w1.cell? ⟨w.heap.size, 2, none⟩ = some (.string (mk [])) := (blk_cell hp_w1 2).trans rfl
  have yw1_3 : w1.cell? ⟨w.heap.size, 3, none⟩ = some (.int .i64 (pos : Int)) := (blk_cell hp_w1 3).trans rfl
  have yw1_4 : w1.cell? ⟨w.heap.size, 4, none⟩ = some (.int .i64 0) := (blk_cell hp_w1 4).trans rfl
  have yw1_5 : w1.cell? ⟨w.heap.size, 5, none⟩ = some (.slice (some ⟨b, 0, none⟩) 2 c) := (blk_cell hp_w1 5).trans rfl
  have xw12_0 : w1.cell? ⟨b, 6, none⟩ = some (.string s20) := (blk_cell hb_w1 6).trans rfl
  have xw12_1 : w1.cell? ⟨b, 7, none⟩ = some (.int .i64 n21) := (blk_cell hb_w1 7).trans rfl
  have xw12_2 : w1.cell? ⟨b, 8, none⟩ = some (.string s22) := (blk_cell hb_w1 8).trans rfl
  have xw12_3 : w1.cell? ⟨b, 9, none⟩ = some (.int .i64 n23) := (blk_cell hb_w1 9).trans rfl
  have xw12_4 : w1.cell? ⟨b, 10, none⟩ = some (.int .i64 n24) := (blk_cell hb_w1 10).trans rfl
  have xw12_5 : w1.cell? ⟨b, 11, none⟩ = some (.slice A2 l2 c2) := (blk_cell hb_w1 11).trans rfl
  have lp_w1 := blk_lt hp_w1
  have lb_w1 := blk_lt hb_w1
  clear hp_w1 hb_w1
  have HT21 := Aside0.mk (hc1.tr HCO.out HT2.out)
  have HC1 := Aside0.mk hc1
  clear hc1
  go_wp2_with fail
  with_reducible refine (put_cs ihb HC1.out (by omega) lo _ _ _ _ _ _ HT21.out).mono ?_
  rintro e' w2 ⟨rfl, hc2⟩
  have hp_w2 := (hc2.keep.block w.heap.size _ _ (heap_new rfl _) (by decide) (by omega)).trans (heap_new rfl _)
  have hb_w2 := (hc2.keep.block b _ _ HROW.out (by decide) (by omega)).trans HROW.out
  have yw2_0 : w2.cell? ⟨w.heap.size, 0, none⟩ = some (.string (mk op)) := (blk_cell hp_w2 0).trans rfl
  have yw2_1 : w2.cell? ⟨w.heap.size, 1, none⟩ = some (.int .i64 0) := (blk_cell hp_w2 1).trans rfl
  have yw2_2 : w2.cell? ⟨w.heap.size, 2, none⟩ = some (.string (mk [])) := (blk_cell hp_w2 2).trans rfl
  have yw2_3 : w2.cell? ⟨w.heap.size, 3, none⟩ = some (.int .i64 (pos : Int)) := (blk_cell hp_w2 3).trans rfl
  have yw2_4 : w2.cell? ⟨w.heap.size, 4, none⟩ = some (.int .i64 0) := (blk_cell hp_w2 4).trans rfl
  have yw2_5 : w2.cell? ⟨w.heap.size, 5, none⟩ = some (.slice (some ⟨b, 0, none⟩) 2 c) := (blk_cell hp_w2 5).trans rfl
  have lp_w2 := blk_lt hp_w2
  have lb_w2 := blk_lt hb_w2
  clear hp_w2 hb_w2
  have HC2 := Aside0.mk hc2
  clear hc2
  go_wp2_with fail
  with_reducible refine (add_cs HC2.out (by omega) ⟨4, 0, [], op, pos, 0⟩ _ _ _ _ _ _ (by simp [icells, mk])).mono ?_
  rintro e' w3 ⟨rfl, hc3⟩
  go_wp2_with fail
  exact bodyPost_ret (v := .tuple #[]) (by simp [results, Tryz.results84]) rfl ⟨rfl, hc3.code, HK.out.trans hc3.keep⟩
/-- The operators that put itself knows. -/
def own (op : Bs) : Prop := op = [110, 117, 109] ∨ op = [110, 97, 109, 101] ∨ op = [117, 43] ∨ op = [117, 45] ∨ op = [33] ∨ op = [126] ∨ op = [38, 38] ∨ op = [124, 124] ∨ op = [63]
set_option maxHeartbeats 4000000 in
set_option maxRecDepth 100000 in
theorem put_bin (base g : Nat) (op : Bs) (pos : Nat) (e1 e2 : Ex) (hno : ¬ own op) (iha : PutAt base g e1) (ihb : PutAt base g e2) : PutAt base g (.bin op pos e1 e2) := by
  intro lo cs l w hT hC hl
  have hno' := hno
  simp only [own, not_or] at hno'
  obtain ⟨n0, n1, n2, n3, n4, n5, n6, n7, n8⟩ := hno'
  obtain ⟨s0, m1, s2, m3, m4, A0, l0, c0, rfl⟩ := hT.six
  have hput : put l (.bin op pos e1 e2) = put (put l e1) e2 ++ [⟨4, 0, [], op, pos, 0⟩] := by rw [put, if_neg n6, if_neg n7]
  rw [hput]
  have hs0 : s0 = mk op := by
    obtain ⟨b, c, k1, k2, z, hb, hc, hh, hcs, _⟩ := hT
    injection hcs with h1 _
    injection h1
  subst hs0
  have hgl := hC.lt
  have HR := Aside0.mk (fun W (hW : CodeAt W base g l) (hTW : Tr W lo (.bin op pos e1 e2) [.string (mk op), .int .i64 m1, .string s2, .int .i64 m3, .int .i64 m4, .slice A0 l0 c0]) => rest_bin base g op pos e1 e2 iha ihb lo _ l W hTW hW hl)
  have HC := Aside0.mk (hC.alloc (.cells #[.string (mk op), .int .i64 m1, .string s2, .int .i64 m3, .int .i64 m4, .slice A0 l0 c0] 63))
  have HT := Aside0.mk (tr_alloc hT (.cells #[.string (mk op), .int .i64 m1, .string s2, .int .i64 m3, .int .i64 m4, .slice A0 l0 c0] 63))
  have HK := Aside0.mk ((CodeKeep.refl base g w).alloc (by omega) (.cells #[.string (mk op), .int .i64 m1, .string s2, .int .i64 m3, .int .i64 m4, .slice A0 l0 c0] 63))
  have h0 := op_no n0
  have h1 := op_no n1
  have h2 := op_no n2
  have h3 := op_no n3
  have h4 := op_no n4
  have h5 := op_no n5
  have h6 := op_no n6
  have h7 := op_no n7
  have h8 := op_no n8
  clear hT hC n0 n1 n2 n3 n4 n5 n6 n7 n8 hno hput
  show Calls _ _ #[_, .agg #[.string (mk op), .int .i64 m1, .string s2, .int .i64 m3, .int .i64 m4, .slice A0 l0 c0]] _ _
  go_enter Tryz.func49, Tryz.ntmps49
  go_wp2_with fail
  with_reducible refine (HR.out _ HC.out HT.out).mono ?_
  rintro e' w3 ⟨rfl, hc3, hk3⟩
  go_wp2_with fail
  go_end0
  exact ⟨rfl, hc3, HK.out.trans hk3⟩

set_option maxHeartbeats 4000000 in
set_option maxRecDepth 100000 in
theorem rest_set (base g : Nat) (op x : Bs) (pos apos : Nat) (e1 : Ex) (hop : op = [61]) (hx : x ≠ []) (iha : PutAt base g e1) (lo : Nat) (cs : List Value) (l : List I) (w : World) (hT : Tr w lo (.asg op x pos apos e1) cs) (hC : CodeAt w base g l) (hl : l.length + 5 * sz (.asg op x pos apos e1) ≤ 1000000) :
    Calls Tryz.prog 84 #[.pointer (some ⟨g, 0, none⟩), .agg cs.toArray] w fun e w' => e = .returned (.tuple #[]) ∧ CodeAt w' base g (put l e1 ++ [⟨2, 0, x, [], 0, 0⟩]) ∧ CodeKeep base g w w' := by
  obtain ⟨b, c, k1, z, hb, hc, hh, rfl, hT1⟩ := hT
  have hsz : sz (.asg op x pos apos e1) = sz e1 + 1 := rfl
  have hpl1 := put_len e1 l
  obtain ⟨s10, n11, s12, n13, n14, A1, l1, c1, rfl⟩ := hT1.six
  have hblt := blk_lt hh
  have hgl := hC.lt
  have hgb : b ≠ g := by obtain ⟨⟨v, hg, _⟩, _⟩ := hC; exact blk_ne hh hg (by decide)
  have xw1_0 : w.cell? ⟨b, 0, none⟩ = some (.string s10) := (blk_cell hh 0).trans rfl
  have xw1_1 : w.cell? ⟨b, 1, none⟩ = some (.int .i64 n11) := (blk_cell hh 1).trans rfl
  have xw1_2 : w.cell? ⟨b, 2, none⟩ = some (.string s12) := (blk_cell hh 2).trans rfl
  have xw1_3 : w.cell? ⟨b, 3, none⟩ = some (.int .i64 n13) := (blk_cell hh 3).trans rfl
  have xw1_4 : w.cell? ⟨b, 4, none⟩ = some (.int .i64 n14) := (blk_cell hh 4).trans rfl
  have xw1_5 : w.cell? ⟨b, 5, none⟩ = some (.slice A1 l1 c1) := (blk_cell hh 5).trans rfl
  have HC := Aside0.mk (CS.refl (hC.alloc (.cells #[.string (mk op), .int .i64 0, .string (mk x), .int .i64 (pos : Int), .int .i64 (apos : Int), .slice (some ⟨b, 0, none⟩) 1 c] 63)))
  have HK := Aside0.mk ((CodeKeep.refl base g w).alloc (by omega) (.cells #[.string (mk op), .int .i64 0, .string (mk x), .int .i64 (pos : Int), .int .i64 (apos : Int), .slice (some ⟨b, 0, none⟩) 1 c] 63))
  have HROW := Aside0.mk (blk_alloc hh (.cells #[.string (mk op), .int .i64 0, .string (mk x), .int .i64 (pos : Int), .int .i64 (apos : Int), .slice (some ⟨b, 0, none⟩) 1 c] 63))
  have HT1 := Aside0.mk (tr_alloc hT1 (.cells #[.string (mk op), .int .i64 0, .string (mk x), .int .i64 (pos : Int), .int .i64 (apos : Int), .slice (some ⟨b, 0, none⟩) 1 c] 63))
  have HCO := Aside0.mk (hC.alloc (.cells #[.string (mk op), .int .i64 0, .string (mk x), .int .i64 (pos : Int), .int .i64 (apos : Int), .slice (some ⟨b, 0, none⟩) 1 c] 63))
  clear hC hh hT1
  have h0 := op_no hx
  have h1 := op_yes hop
  clear hx hop
  show Calls _ _ #[_, .agg #[.string (mk op), .int .i64 ((0 : Nat) : Int), .string (mk x), .int .i64 (pos : Int), .int .i64 (apos : Int), .slice (some ⟨b, 0, none⟩) 1 c]] _ _
  go_enter Tryz.func84, Tryz.ntmps84
  go_wp2_with fail
  with_reducible refine (put_cs iha HC.out (by omega) lo _ _ _ _ _ _ HT1.out).mono ?_
  rintro e' w1 ⟨rfl, hc1⟩
  have hp_w1 := (hc1.keep.block w.heap.size _ _ (heap_new rfl _) (by decide) (by omega)).trans (heap_new rfl _)
  have hb_w1 := (hc1.keep.block b _ _ HROW.out (by decide) (by omega)).trans HROW.out
  have yw1_0 : w1.cell? ⟨w.heap.size, 0, none⟩ = some (.string (mk op)) := (blk_cell hp_w1 0).trans rfl
  have yw1_1 : w1.cell? ⟨w.heap.size, 1, none⟩ = some (.int .i64 0) := (blk_cell hp_w1 1).trans rfl
  have yw1_2 : w1.cell? ⟨w.heap.size, 2, none⟩ = some (.string (mk x)) := (blk_cell hp_w1 2).trans rfl
  have yw1_3 : w1.cell? ⟨w.heap.size, 3, none⟩ = some (.int .i64 (pos : Int)) := (blk_cell hp_w1 3).trans rfl
  have yw1_4 : w1.cell? ⟨w.heap.size, 4, none⟩ = some (.int .i64 (apos : Int)) := (blk_cell hp_w1 4).trans rfl
  have yw1_5 : w1.cell? ⟨w.heap.size, 5, none⟩ = some (.slice (some ⟨b, 0, none⟩) 1 c) := (blk_cell hp_w1 5).trans rfl
  have lp_w1 := blk_lt hp_w1
  have lb_w1 := blk_lt hb_w1
  clear hp_w1 hb_w1
  have HC1 := Aside0.mk hc1
  clear hc1
  go_wp2_with fail
  with_reducible refine (add_cs HC1.out (by omega) ⟨2, 0, x, [], 0, 0⟩ _ _ _ _ _ _ (by simp [icells, mk])).mono ?_
  rintro e' w3 ⟨rfl, hc3⟩
  go_wp2_with fail
  go_end0
  exact ⟨rfl, hc3.code, HK.out.trans hc3.keep⟩

set_option maxHeartbeats 4000000 in
set_option maxRecDepth 100000 in
theorem rest_with (base g : Nat) (op x : Bs) (pos apos : Nat) (e1 : Ex) (hop : op ≠ [61]) (hol : 1 ≤ op.length) (hol2 : op.length ≤ 3) (hx : x ≠ []) (iha : PutAt base g e1) (lo : Nat) (cs : List Value) (l : List I) (w : World) (hT : Tr w lo (.asg op x pos apos e1) cs) (hC : CodeAt w base g l) (hl : l.length + 5 * sz (.asg op x pos apos e1) ≤ 1000000) :
    Calls Tryz.prog 84 #[.pointer (some ⟨g, 0, none⟩), .agg cs.toArray] w fun e w' => e = .returned (.tuple #[]) ∧ CodeAt w' base g (put (l ++ [⟨1, 0, x, [], pos, 0⟩]) e1 ++ [⟨4, 0, [], op.dropLast, apos, 0⟩] ++ [⟨2, 0, x, [], 0, 0⟩]) ∧ CodeKeep base g w w' := by
  obtain ⟨b, c, k1, z, hb, hc, hh, rfl, hT1⟩ := hT
  have hsz : sz (.asg op x pos apos e1) = sz e1 + 1 := rfl
  have hpl1 := put_len e1 (l ++ [⟨1, 0, x, [], pos, 0⟩])
  simp only [List.length_append, List.length_cons, List.length_nil] at hpl1
  obtain ⟨s10, n11, s12, n13, n14, A1, l1, c1, rfl⟩ := hT1.six
  have hblt := blk_lt hh
  have hgl := hC.lt
  have hgb : b ≠ g := by obtain ⟨⟨v, hg, _⟩, _⟩ := hC; exact blk_ne hh hg (by decide)
  have xw1_0 : w.cell? ⟨b, 0, none⟩ = some (.string s10) := (blk_cell hh 0).trans rfl
  have xw1_1 : w.cell? ⟨b, 1, none⟩ = some (.int .i64 n11) := (blk_cell hh 1).trans rfl
  have xw1_2 : w.cell? ⟨b, 2, none⟩ = some (.string s12) := (blk_cell hh 2).trans rfl
  have xw1_3 : w.cell? ⟨b, 3, none⟩ = some (.int .i64 n13) := (blk_cell hh 3).trans rfl
  have xw1_4 : w.cell? ⟨b, 4, none⟩ = some (.int .i64 n14) := (blk_cell hh 4).trans rfl
  have xw1_5 : w.cell? ⟨b, 5, none⟩ = some (.slice A1 l1 c1) := (blk_cell hh 5).trans rfl
  have HC := Aside0.mk (CS.refl (hC.alloc (.cells #[.string (mk op), .int .i64 0, .string (mk x), .int .i64 (pos : Int), .int .i64 (apos : Int), .slice (some ⟨b, 0, none⟩) 1 c] 63)))
  have HK := Aside0.mk ((CodeKeep.refl base g w).alloc (by omega) (.cells #[.string (mk op), .int .i64 0, .string (mk x), .int .i64 (pos : Int), .int .i64 (apos : Int), .slice (some ⟨b, 0, none⟩) 1 c] 63))
  have HROW := Aside0.mk (blk_alloc hh (.cells #[.string (mk op), .int .i64 0, .string (mk x), .int .i64 (pos : Int), .int .i64 (apos : Int), .slice (some ⟨b, 0, none⟩) 1 c] 63))
  have HT1 := Aside0.mk (tr_alloc hT1 (.cells #[.string (mk op), .int .i64 0, .string (mk x), .int .i64 (pos : Int), .int .i64 (apos : Int), .slice (some ⟨b, 0, none⟩) 1 c] 63))
  have HCO := Aside0.mk (hC.alloc (.cells #[.string (mk op), .int .i64 0, .string (mk x), .int .i64 (pos : Int), .int .i64 (apos : Int), .slice (some ⟨b, 0, none⟩) 1 c] 63))
  clear hC hh hT1
  have h0 := op_no hx
  have h1 := op_no hop
  clear hx hop
  show Calls _ _ #[_, .agg #[.string (mk op), .int .i64 ((0 : Nat) : Int), .string (mk x), .int .i64 (pos : Int), .int .i64 (apos : Int), .slice (some ⟨b, 0, none⟩) 1 c]] _ _
  go_enter Tryz.func84, Tryz.ntmps84
  go_wp2_with fail
  with_reducible refine (add_cs HC.out (by omega) ⟨1, 0, x, [], pos, 0⟩ _ _ _ _ _ _ (by simp [icells, mk])).mono ?_
  rintro e' w1 ⟨rfl, hc1⟩
  have hp_w1 := (hc1.keep.block w.heap.size _ _ (heap_new rfl _) (by decide) (by omega)).trans (heap_new rfl _)
  have hb_w1 := (hc1.keep.block b _ _ HROW.out (by decide) (by omega)).trans HROW.out
  have yw1_0 : w1.cell? ⟨w.heap.size, 0, none⟩ = some (.string (mk op)) := (blk_cell hp_w1 0).trans rfl
  have yw1_1 : w1.cell? ⟨w.heap.size, 1, none⟩ = some (.int .i64 0) := (blk_cell hp_w1 1).trans rfl
  have yw1_2 : w1.cell? ⟨w.heap.size, 2, none⟩ = some (.string (mk x)) := (blk_cell hp_w1 2).trans rfl
  have yw1_3 : w1.cell? ⟨w.heap.size, 3, none⟩ = some (.int .i64 (pos : Int)) := (blk_cell hp_w1 3).trans rfl
  have yw1_4 : w1.cell? ⟨w.heap.size, 4, none⟩ = some (.int .i64 (apos : Int)) := (blk_cell hp_w1 4).trans rfl
  have yw1_5 : w1.cell? ⟨w.heap.size, 5, none⟩ = some (.slice (some ⟨b, 0, none⟩) 1 c) := (blk_cell hp_w1 5).trans rfl
  have xw11_0 : w1.cell? ⟨b, 0, none⟩ = some (.string s10) := (blk_cell hb_w1 0).trans rfl
  have xw11_1 : w1.cell? ⟨b, 1, none⟩ = some (.int .i64 n11) := (blk_cell hb_w1 1).trans rfl
  have xw11_2 : w1.cell? ⟨b, 2, none⟩ = some (.string s12) := (blk_cell hb_w1 2).trans rfl
  have xw11_3 : w1.cell? ⟨b, 3, none⟩ = some (.int .i64 n13) := (blk_cell hb_w1 3).trans rfl
  have xw11_4 : w1.cell? ⟨b, 4, none⟩ = some (.int .i64 n14) := (blk_cell hb_w1 4).trans rfl
  have xw11_5 : w1.cell? ⟨b, 5, none⟩ = some (.slice A1 l1 c1) := (blk_cell hb_w1 5).trans rfl
  have lp_w1 := blk_lt hp_w1
  have lb_w1 := blk_lt hb_w1
  clear hp_w1 hb_w1
  have HT11 := Aside0.mk (hc1.tr HCO.out HT1.out)
  have HC1 := Aside0.mk hc1
  clear hc1
  go_wp2_with fail
  with_reducible refine (put_cs iha HC1.out (by simp; omega) lo _ _ _ _ _ _ HT11.out).mono ?_
  rintro e' w2 ⟨rfl, hc2⟩
  have hp_w2 := (hc2.keep.block w.heap.size _ _ (heap_new rfl _) (by decide) (by omega)).trans (heap_new rfl _)
  have hb_w2 := (hc2.keep.block b _ _ HROW.out (by decide) (by omega)).trans HROW.out
  have yw2_0 : w2.cell? ⟨w.heap.size, 0, none⟩ = some (.string (mk op)) := (blk_cell hp_w2 0).trans rfl
  have yw2_1 : w2.cell? ⟨w.heap.size, 1, none⟩ = some (.int .i64 0) := (blk_cell hp_w2 1).trans rfl
  have yw2_2 : w2.cell? ⟨w.heap.size, 2, none⟩ = some (.string (mk x)) := (blk_cell hp_w2 2).trans rfl
  have yw2_3 : w2.cell? ⟨w.heap.size, 3, none⟩ = some (.int .i64 (pos : Int)) := (blk_cell hp_w2 3).trans rfl
  have yw2_4 : w2.cell? ⟨w.heap.size, 4, none⟩ = some (.int .i64 (apos : Int)) := (blk_cell hp_w2 4).trans rfl
  have yw2_5 : w2.cell? ⟨w.heap.size, 5, none⟩ = some (.slice (some ⟨b, 0, none⟩) 1 c) := (blk_cell hp_w2 5).trans rfl
  have lp_w2 := blk_lt hp_w2
  have lb_w2 := blk_lt hb_w2
  clear hp_w2 hb_w2
  have HC2 := Aside0.mk hc2
  clear hc2
  have hws : IntKind.i64.wrap ((op.length : Int) - 1) = ((op.length - 1 : Nat) : Int) := by rw [IntWalk.i64_in _ (by omega)]; omega
  have hms : (mk op).size = op.length := mk_sz op
  go_wp2_with fail
  have hcut : (mk op).extract 0 (op.length - 1) = mk op.dropLast := by rw [mk_cut, List.drop_zero, List.dropLast_eq_take]
  have hcells : icells ⟨4, 0, [], op.dropLast, apos, 0⟩ = [.int .i64 4, .int .i64 0, .string ⟨#[]⟩, .string ((mk op).extract 0 (op.length - 1)), .int .i64 (apos : Int), .int .i64 0] := by rw [hcut]; rfl
  have HCE := Aside0.mk hcells
  clear hcut hcells
  go_region_held3 (fun W => W.cell? ⟨w.heap.size, 0, none⟩ = some (.string (mk op)) ∧ W.cell? ⟨w.heap.size, 4, none⟩ = some (.int .i64 (apos : Int))) (first | (with_reducible exact HX.out) | go_keep) ((go_at_call 82; ((with_reducible refine (add_cs HC2.out.drew (by omega) ⟨4, 0, [], op.dropLast, apos, 0⟩ _ _ _ _ _ _ HCE.out).mono ?_); rintro e' w3 ⟨rfl, hc3⟩; have hp_w3 := (hc3.keep.block w.heap.size _ _ (heap_new rfl _) (by decide) (by omega)).trans (heap_new rfl _); have hb_w3 := (hc3.keep.block b _ _ HROW.out (by decide) (by omega)).trans HROW.out; have yw3_0 : w3.cell? ⟨w.heap.size, 0, none⟩ = some (.string (mk op)) := (blk_cell hp_w3 0).trans rfl; have yw3_1 : w3.cell? ⟨w.heap.size, 1, none⟩ = some (.int .i64 0) := (blk_cell hp_w3 1).trans rfl; have yw3_2 : w3.cell? ⟨w.heap.size, 2, none⟩ = some (.string (mk x)) := (blk_cell hp_w3 2).trans rfl; have yw3_3 : w3.cell? ⟨w.heap.size, 3, none⟩ = some (.int .i64 (pos : Int)) := (blk_cell hp_w3 3).trans rfl; have yw3_4 : w3.cell? ⟨w.heap.size, 4, none⟩ = some (.int .i64 (apos : Int)) := (blk_cell hp_w3 4).trans rfl; have yw3_5 : w3.cell? ⟨w.heap.size, 5, none⟩ = some (.slice (some ⟨b, 0, none⟩) 1 c) := (blk_cell hp_w3 5).trans rfl; have lp_w3 := blk_lt hp_w3; have lb_w3 := blk_lt hb_w3; clear hp_w3 hb_w3; have HX := Aside0.mk (And.intro yw3_0 yw3_4); have HC3 := Aside0.mk hc3; clear hc3)))
  rename_i hHeld
  clear hHeld
  go_wp2_with fail
  with_reducible refine (add_cs HC3.out (by simp only [List.length_append, List.length_cons, List.length_nil]; omega) ⟨2, 0, x, [], 0, 0⟩ _ _ _ _ _ _ (by simp [icells, mk])).mono ?_
  rintro e' w4 ⟨rfl, hc4⟩
  go_wp2_with fail
  go_end0
  exact ⟨rfl, hc4.code, HK.out.trans hc4.keep⟩

set_option maxHeartbeats 4000000 in
set_option maxRecDepth 100000 in
theorem put_asg (base g : Nat) (op x : Bs) (pos apos : Nat) (e1 : Ex) (hno : ¬ own op) (hol : 1 ≤ op.length) (hol2 : op.length ≤ 3) (hx : x ≠ []) (iha : PutAt base g e1) : PutAt base g (.asg op x pos apos e1) := by
  intro lo cs l w hT hC hl
  have hno' := hno
  simp only [own, not_or] at hno'
  obtain ⟨n0, n1, n2, n3, n4, n5, n6, n7, n8⟩ := hno'
  obtain ⟨s0, m1, s2, m3, m4, A0, l0, c0, rfl⟩ := hT.six
  have hs0 : s0 = mk op := by
    obtain ⟨b, c, k1, z, hb, hc, hh, hcs, _⟩ := hT
    injection hcs with h1 _
    injection h1
  subst hs0
  have hgl := hC.lt
  have HR : Aside0 (∀ W, CodeAt W base g l → Tr W lo (.asg op x pos apos e1) [.string (mk op), .int .i64 m1, .string s2, .int .i64 m3, .int .i64 m4, .slice A0 l0 c0] →
      Calls Tryz.prog 84 #[.pointer (some ⟨g, 0, none⟩), .agg #[.string (mk op), .int .i64 m1, .string s2, .int .i64 m3, .int .i64 m4, .slice A0 l0 c0]] W fun e w' => e = .returned (.tuple #[]) ∧ CodeAt w' base g (put l (.asg op x pos apos e1)) ∧ CodeKeep base g W w') := ⟨fun W hW hTW => by
    rw [put]
    split
    · rename_i h; exact rest_set base g op x pos apos e1 h hx iha lo _ l W hTW hW hl
    · rename_i h; exact rest_with base g op x pos apos e1 h hol hol2 hx iha lo _ l W hTW hW hl⟩
  have HC := Aside0.mk (hC.alloc (.cells #[.string (mk op), .int .i64 m1, .string s2, .int .i64 m3, .int .i64 m4, .slice A0 l0 c0] 63))
  have HT := Aside0.mk (tr_alloc hT (.cells #[.string (mk op), .int .i64 m1, .string s2, .int .i64 m3, .int .i64 m4, .slice A0 l0 c0] 63))
  have HK := Aside0.mk ((CodeKeep.refl base g w).alloc (by omega) (.cells #[.string (mk op), .int .i64 m1, .string s2, .int .i64 m3, .int .i64 m4, .slice A0 l0 c0] 63))
  have h0 := op_no n0
  have h1 := op_no n1
  have h2 := op_no n2
  have h3 := op_no n3
  have h4 := op_no n4
  have h5 := op_no n5
  have h6 := op_no n6
  have h7 := op_no n7
  have h8 := op_no n8
  clear hT hC n0 n1 n2 n3 n4 n5 n6 n7 n8 hno
  show Calls _ _ #[_, .agg #[.string (mk op), .int .i64 m1, .string s2, .int .i64 m3, .int .i64 m4, .slice A0 l0 c0]] _ _
  go_enter Tryz.func49, Tryz.ntmps49
  go_wp2_with fail
  with_reducible refine (HR.out _ HC.out HT.out).mono ?_
  rintro e' w3 ⟨rfl, hc3, hk3⟩
  go_wp2_with fail
  go_end0
  exact ⟨rfl, hc3, HK.out.trans hk3⟩
end Go.Proofs.YtjllmamblkejjaaGreatDoor
end

/- (*acode.Code).put and rest at trees of more kids than one. No conditions. -/
section
set_option linter.unusedVariables false
set_option linter.unusedSimpArgs false
namespace Go.Proofs.YtjllmamblkejjaaGreatDoor
open Go.RowKit Go.Proofs.YtjllmamblkejjaaGreatDoorW.PrintWords Go.Proofs.YtjllmamblkejjaaGreatDoorW.PrintLast Go.Proofs.YtjllmamblkejjaaGreatDoorW.PrintMore
open PQA Sp

theorem here_li {base g : Nat} {w W : World} {l : List I} (h : CS base g w W l) (a : Nat) (ha : a < l.length) (hl : l.length ≤ 1000000) (li : Int) (hli : li = (a : Int)) :
    Calls Tryz.prog 83 #[.pointer (some ⟨g, 0, none⟩), .int .i64 li] W fun e w' => e = .returned (.tuple #[]) ∧ CS base g w w' (patch l a) := by
  subst hli
  exact here_cs h a ha hl
set_option maxHeartbeats 4000000 in
set_option maxRecDepth 100000 in
theorem put_and (base g : Nat) (op : Bs) (pos : Nat) (e1 e2 : Ex) (hop : op = [38, 38]) (iha : PutAt base g e1) (ihb : PutAt base g e2) : PutAt base g (.bin op pos e1 e2) := by
  intro lo cs l w hT hC hl
  rw [put, if_pos hop]
  obtain ⟨b, c, k1, k2, z, hb, hc, hh, rfl, hT1, hT2⟩ := hT
  have hsz : sz (.bin op pos e1 e2) = sz e1 + sz e2 + 1 := rfl
  have hpl1 := put_len e1 l
  have hpl2 := put_len e2 (put l e1 ++ [J 8 0])
  simp only [List.length_append, List.length_cons, List.length_nil] at hpl2
  obtain ⟨s10, n11, s12, n13, n14, A1, l1, c1, rfl⟩ := hT1.six
  obtain ⟨s20, n21, s22, n23, n24, A2, l2, c2, rfl⟩ := hT2.six
  have hblt := blk_lt hh
  have hgl := hC.lt
  have hgb : b ≠ g := by obtain ⟨⟨v, hg, _⟩, _⟩ := hC; exact blk_ne hh hg (by decide)
  have xw1_0 : w.cell? ⟨b, 0, none⟩ = some (.string s10) := (blk_cell hh 0).trans rfl
  have xw1_1 : w.cell? ⟨b, 1, none⟩ = some (.int .i64 n11) := (blk_cell hh 1).trans rfl
  have xw1_2 : w.cell? ⟨b, 2, none⟩ = some (.string s12) := (blk_cell hh 2).trans rfl
  have xw1_3 : w.cell? ⟨b, 3, none⟩ = some (.int .i64 n13) := (blk_cell hh 3).trans rfl
  have xw1_4 : w.cell? ⟨b, 4, none⟩ = some (.int .i64 n14) := (blk_cell hh 4).trans rfl
  have xw1_5 : w.cell? ⟨b, 5, none⟩ = some (.slice A1 l1 c1) := (blk_cell hh 5).trans rfl
  have xw2_0 : w.cell? ⟨b, 6, none⟩ = some (.string s20) := (blk_cell hh 6).trans rfl
  have xw2_1 : w.cell? ⟨b, 7, none⟩ = some (.int .i64 n21) := (blk_cell hh 7).trans rfl
  have xw2_2 : w.cell? ⟨b, 8, none⟩ = some (.string s22) := (blk_cell hh 8).trans rfl
  have xw2_3 : w.cell? ⟨b, 9, none⟩ = some (.int .i64 n23) := (blk_cell hh 9).trans rfl
  have xw2_4 : w.cell? ⟨b, 10, none⟩ = some (.int .i64 n24) := (blk_cell hh 10).trans rfl
  have xw2_5 : w.cell? ⟨b, 11, none⟩ = some (.slice A2 l2 c2) := (blk_cell hh 11).trans rfl
  have HC := Aside0.mk (CS.refl (hC.alloc (.cells #[.string (mk op), .int .i64 0, .string (mk []), .int .i64 (pos : Int), .int .i64 0, .slice (some ⟨b, 0, none⟩) 2 c] 63)))
  have HK := Aside0.mk ((CodeKeep.refl base g w).alloc (by omega) (.cells #[.string (mk op), .int .i64 0, .string (mk []), .int .i64 (pos : Int), .int .i64 0, .slice (some ⟨b, 0, none⟩) 2 c] 63))
  have HROW := Aside0.mk (blk_alloc hh (.cells #[.string (mk op), .int .i64 0, .string (mk []), .int .i64 (pos : Int), .int .i64 0, .slice (some ⟨b, 0, none⟩) 2 c] 63))
  have HT1 := Aside0.mk (tr_alloc hT1 (.cells #[.string (mk op), .int .i64 0, .string (mk []), .int .i64 (pos : Int), .int .i64 0, .slice (some ⟨b, 0, none⟩) 2 c] 63))
  have HT2 := Aside0.mk (tr_alloc hT2 (.cells #[.string (mk op), .int .i64 0, .string (mk []), .int .i64 (pos : Int), .int .i64 0, .slice (some ⟨b, 0, none⟩) 2 c] 63))
  have HCO := Aside0.mk (hC.alloc (.cells #[.string (mk op), .int .i64 0, .string (mk []), .int .i64 (pos : Int), .int .i64 0, .slice (some ⟨b, 0, none⟩) 2 c] 63))
  clear hC hh hT1 hT2
  have h0 := op_no (op := op) (v := [110, 117, 109]) (by rw [hop]; decide)
  have h1 := op_no (op := op) (v := [110, 97, 109, 101]) (by rw [hop]; decide)
  have h2 := op_no (op := op) (v := [117, 43]) (by rw [hop]; decide)
  have h3 := op_no (op := op) (v := [117, 45]) (by rw [hop]; decide)
  have h4 := op_no (op := op) (v := [33]) (by rw [hop]; decide)
  have h5 := op_no (op := op) (v := [126]) (by rw [hop]; decide)
  have h6 := op_yes (op := op) (v := [38, 38]) hop
  clear hop
  show Calls _ _ #[_, .agg #[.string (mk op), .int .i64 ((0 : Nat) : Int), .string (mk []), .int .i64 (pos : Int), .int .i64 ((0 : Nat) : Int), .slice (some ⟨b, 0, none⟩) 2 c]] _ _
  go_enter Tryz.func49, Tryz.ntmps49
  go_wp2_with fail
  with_reducible refine (put_cs iha HC.out (by omega) lo _ _ _ _ _ _ HT1.out).mono ?_
  rintro e' w1 ⟨rfl, hc1⟩
  have HC1 := Aside0.mk hc1
  clear hc1
  go_wp2_with fail
  with_reducible refine (add_cs HC1.out (by omega) (J 8 0) _ _ _ _ _ _ (by simp [icells, mk])).mono ?_
  rintro e' w2 ⟨rfl, hc2⟩
  have hp_w2 := (hc2.keep.block w.heap.size _ _ (heap_new rfl _) (by decide) (by omega)).trans (heap_new rfl _)
  have hb_w2 := (hc2.keep.block b _ _ HROW.out (by decide) (by omega)).trans HROW.out
  have yw2_0 : w2.cell? ⟨w.heap.size, 0, none⟩ = some (.string (mk op)) := (blk_cell hp_w2 0).trans rfl
  have yw2_1 : w2.cell? ⟨w.heap.size, 1, none⟩ = some (.int .i64 0) := (blk_cell hp_w2 1).trans rfl
  have yw2_2 : w2.cell? ⟨w.heap.size, 2, none⟩ = some (.string (mk [])) := (blk_cell hp_w2 2).trans rfl
  have yw2_3 : w2.cell? ⟨w.heap.size, 3, none⟩ = some (.int .i64 (pos : Int)) := (blk_cell hp_w2 3).trans rfl
  have yw2_4 : w2.cell? ⟨w.heap.size, 4, none⟩ = some (.int .i64 0) := (blk_cell hp_w2 4).trans rfl
  have yw2_5 : w2.cell? ⟨w.heap.size, 5, none⟩ = some (.slice (some ⟨b, 0, none⟩) 2 c) := (blk_cell hp_w2 5).trans rfl
  have xw22_0 : w2.cell? ⟨b, 6, none⟩ = some (.string s20) := (blk_cell hb_w2 6).trans rfl
  have xw22_1 : w2.cell? ⟨b, 7, none⟩ = some (.int .i64 n21) := (blk_cell hb_w2 7).trans rfl
  have xw22_2 : w2.cell? ⟨b, 8, none⟩ = some (.string s22) := (blk_cell hb_w2 8).trans rfl
  have xw22_3 : w2.cell? ⟨b, 9, none⟩ = some (.int .i64 n23) := (blk_cell hb_w2 9).trans rfl
  have xw22_4 : w2.cell? ⟨b, 10, none⟩ = some (.int .i64 n24) := (blk_cell hb_w2 10).trans rfl
  have xw22_5 : w2.cell? ⟨b, 11, none⟩ = some (.slice A2 l2 c2) := (blk_cell hb_w2 11).trans rfl
  have lp_w2 := blk_lt hp_w2
  have lb_w2 := blk_lt hb_w2
  clear hp_w2 hb_w2
  have HT22 := Aside0.mk (hc2.tr HCO.out HT2.out)
  have HC2 := Aside0.mk hc2
  clear hc2
  go_wp2_with fail
  with_reducible refine (put_cs ihb HC2.out (by simp only [List.length_append, List.length_cons, List.length_nil]; omega) lo _ _ _ _ _ _ HT22.out).mono ?_
  rintro e' w3 ⟨rfl, hc3⟩
  have HC3 := Aside0.mk hc3
  clear hc3
  go_wp2_with fail
  with_reducible refine (add_cs HC3.out (by omega) (J 5 0) _ _ _ _ _ _ (by simp [icells, mk])).mono ?_
  rintro e' w4 ⟨rfl, hc4⟩
  have HC4 := Aside0.mk hc4
  clear hc4
  go_wp2_with fail
  with_reducible refine (add_cs HC4.out (by first | omega | (simp only [patch_len, List.length_append, List.length_cons, List.length_nil]; omega)) (J 7 0) _ _ _ _ _ _ (by simp [icells, mk])).mono ?_
  rintro e' w5 ⟨rfl, hc5⟩
  have HC5 := Aside0.mk hc5
  clear hc5
  go_wp2_with fail
  with_reducible refine (here_li HC5.out (put l e1).length (by first | omega | (simp only [patch_len, List.length_append, List.length_cons, List.length_nil]; omega)) (by first | omega | (simp only [patch_len, List.length_append, List.length_cons, List.length_nil]; omega)) _ (by simp)).mono ?_
  rintro e' w6 ⟨rfl, hc6⟩
  have HC6 := Aside0.mk hc6
  clear hc6
  go_wp2_with fail
  with_reducible refine (add_cs HC6.out (by first | omega | (simp only [patch_len, List.length_append, List.length_cons, List.length_nil]; omega)) (J 0 0) _ _ _ _ _ _ (by simp [icells, mk])).mono ?_
  rintro e' w7 ⟨rfl, hc7⟩
  have HC7 := Aside0.mk hc7
  clear hc7
  go_wp2_with fail
  with_reducible refine (here_li HC7.out (put (put l e1 ++ [J 8 0]) e2 ++ [J 5 0]).length (by first | omega | (simp only [patch_len, List.length_append, List.length_cons, List.length_nil]; omega)) (by first | omega | (simp only [patch_len, List.length_append, List.length_cons, List.length_nil]; omega)) _ (by simp)).mono ?_
  rintro e' w8 ⟨rfl, hc8⟩
  go_wp2_with fail
  go_end0
  exact ⟨rfl, hc8.code, HK.out.trans hc8.keep⟩

set_option maxHeartbeats 4000000 in
set_option maxRecDepth 100000 in
theorem put_or (base g : Nat) (op : Bs) (pos : Nat) (e1 e2 : Ex) (hop : op = [124, 124]) (iha : PutAt base g e1) (ihb : PutAt base g e2) : PutAt base g (.bin op pos e1 e2) := by
  intro lo cs l w hT hC hl
  rw [put, if_neg (by rw [hop]; decide), if_pos hop]
  obtain ⟨b, c, k1, k2, z, hb, hc, hh, rfl, hT1, hT2⟩ := hT
  have hsz : sz (.bin op pos e1 e2) = sz e1 + sz e2 + 1 := rfl
  have hpl1 := put_len e1 l
  have hpl2 := put_len e2 (patch (put l e1 ++ [J 8 0] ++ [J 0 1] ++ [J 7 0]) (put l e1).length)
  simp only [patch_len, List.length_append, List.length_cons, List.length_nil] at hpl2
  obtain ⟨s10, n11, s12, n13, n14, A1, l1, c1, rfl⟩ := hT1.six
  obtain ⟨s20, n21, s22, n23, n24, A2, l2, c2, rfl⟩ := hT2.six
  have hblt := blk_lt hh
  have hgl := hC.lt
  have hgb : b ≠ g := by obtain ⟨⟨v, hg, _⟩, _⟩ := hC; exact blk_ne hh hg (by decide)
  have xw1_0 : w.cell? ⟨b, 0, none⟩ = some (.string s10) := (blk_cell hh 0).trans rfl
  have xw1_1 : w.cell? ⟨b, 1, none⟩ = some (.int .i64 n11) := (blk_cell hh 1).trans rfl
  have xw1_2 : w.cell? ⟨b, 2, none⟩ = some (.string s12) := (blk_cell hh 2).trans rfl
  have xw1_3 : w.cell? ⟨b, 3, none⟩ = some (.int .i64 n13) := (blk_cell hh 3).trans rfl
  have xw1_4 : w.cell? ⟨b, 4, none⟩ = some (.int .i64 n14) := (blk_cell hh 4).trans rfl
  have xw1_5 : w.cell? ⟨b, 5, none⟩ = some (.slice A1 l1 c1) := (blk_cell hh 5).trans rfl
  have xw2_0 : w.cell? ⟨b, 6, none⟩ = some (.string s20) := (blk_cell hh 6).trans rfl
  have xw2_1 : w.cell? ⟨b, 7, none⟩ = some (.int .i64 n21) := (blk_cell hh 7).trans rfl
  have xw2_2 : w.cell? ⟨b, 8, none⟩ = some (.string s22) := (blk_cell hh 8).trans rfl
  have xw2_3 : w.cell? ⟨b, 9, none⟩ = some (.int .i64 n23) := (blk_cell hh 9).trans rfl
  have xw2_4 : w.cell? ⟨b, 10, none⟩ = some (.int .i64 n24) := (blk_cell hh 10).trans rfl
  have xw2_5 : w.cell? ⟨b, 11, none⟩ = some (.slice A2 l2 c2) := (blk_cell hh 11).trans rfl
  have HC := Aside0.mk (CS.refl (hC.alloc (.cells #[.string (mk op), .int .i64 0, .string (mk []), .int .i64 (pos : Int), .int .i64 0, .slice (some ⟨b, 0, none⟩) 2 c] 63)))
  have HK := Aside0.mk ((CodeKeep.refl base g w).alloc (by omega) (.cells #[.string (mk op), .int .i64 0, .string (mk []), .int .i64 (pos : Int), .int .i64 0, .slice (some ⟨b, 0, none⟩) 2 c] 63))
  have HROW := Aside0.mk (blk_alloc hh (.cells #[.string (mk op), .int .i64 0, .string (mk []), .int .i64 (pos : Int), .int .i64 0, .slice (some ⟨b, 0, none⟩) 2 c] 63))
  have HT1 := Aside0.mk (tr_alloc hT1 (.cells #[.string (mk op), .int .i64 0, .string (mk []), .int .i64 (pos : Int), .int .i64 0, .slice (some ⟨b, 0, none⟩) 2 c] 63))
  have HT2 := Aside0.mk (tr_alloc hT2 (.cells #[.string (mk op), .int .i64 0, .string (mk []), .int .i64 (pos : Int), .int .i64 0, .slice (some ⟨b, 0, none⟩) 2 c] 63))
  have HCO := Aside0.mk (hC.alloc (.cells #[.string (mk op), .int .i64 0, .string (mk []), .int .i64 (pos : Int), .int .i64 0, .slice (some ⟨b, 0, none⟩) 2 c] 63))
  clear hC hh hT1 hT2
  have h0 := op_no (op := op) (v := [110, 117, 109]) (by rw [hop]; decide)
  have h1 := op_no (op := op) (v := [110, 97, 109, 101]) (by rw [hop]; decide)
  have h2 := op_no (op := op) (v := [117, 43]) (by rw [hop]; decide)
  have h3 := op_no (op := op) (v := [117, 45]) (by rw [hop]; decide)
  have h4 := op_no (op := op) (v := [33]) (by rw [hop]; decide)
  have h5 := op_no (op := op) (v := [126]) (by rw [hop]; decide)
  have h6 := op_no (op := op) (v := [38, 38]) (by rw [hop]; decide)
  have h7 := op_yes (op := op) (v := [124, 124]) hop
  clear hop
  show Calls _ _ #[_, .agg #[.string (mk op), .int .i64 ((0 : Nat) : Int), .string (mk []), .int .i64 (pos : Int), .int .i64 ((0 : Nat) : Int), .slice (some ⟨b, 0, none⟩) 2 c]] _ _
  go_enter Tryz.func49, Tryz.ntmps49
  go_wp2_with fail
  with_reducible refine (put_cs iha HC.out (by omega) lo _ _ _ _ _ _ HT1.out).mono ?_
  rintro e' w1 ⟨rfl, hc1⟩
  have HC1 := Aside0.mk hc1
  clear hc1
  go_wp2_with fail
  with_reducible refine (add_cs HC1.out (by first | omega | (simp only [patch_len, List.length_append, List.length_cons, List.length_nil]; omega)) (J 8 0) _ _ _ _ _ _ (by simp [icells, mk])).mono ?_
  rintro e' w2 ⟨rfl, hc2⟩
  have HC2 := Aside0.mk hc2
  clear hc2
  go_wp2_with fail
  with_reducible refine (add_cs HC2.out (by first | omega | (simp only [patch_len, List.length_append, List.length_cons, List.length_nil]; omega)) (J 0 1) _ _ _ _ _ _ (by simp [icells, mk])).mono ?_
  rintro e' w3 ⟨rfl, hc3⟩
  have HC3 := Aside0.mk hc3
  clear hc3
  go_wp2_with fail
  with_reducible refine (add_cs HC3.out (by first | omega | (simp only [patch_len, List.length_append, List.length_cons, List.length_nil]; omega)) (J 7 0) _ _ _ _ _ _ (by simp [icells, mk])).mono ?_
  rintro e' w4 ⟨rfl, hc4⟩
  have HC4 := Aside0.mk hc4
  clear hc4
  go_wp2_with fail
  with_reducible refine (here_li HC4.out ((put l e1).length) (by first | omega | (simp only [patch_len, List.length_append, List.length_cons, List.length_nil]; omega)) (by first | omega | (simp only [patch_len, List.length_append, List.length_cons, List.length_nil]; omega)) _ (by simp)).mono ?_
  rintro e' w5 ⟨rfl, hc5⟩
  have hp_w5 := (hc5.keep.block w.heap.size _ _ (heap_new rfl _) (by decide) (by omega)).trans (heap_new rfl _)
  have hb_w5 := (hc5.keep.block b _ _ HROW.out (by decide) (by omega)).trans HROW.out
  have yw5_0 : w5.cell? ⟨w.heap.size, 0, none⟩ = some (.string (mk op)) := (blk_cell hp_w5 0).trans rfl
  have yw5_1 : w5.cell? ⟨w.heap.size, 1, none⟩ = some (.int .i64 0) := (blk_cell hp_w5 1).trans rfl
  have yw5_2 : w5.cell? ⟨w.heap.size, 2, none⟩ = some (.string (mk [])) := (blk_cell hp_w5 2).trans rfl
  have yw5_3 : w5.cell? ⟨w.heap.size, 3, none⟩ = some (.int .i64 (pos : Int)) := (blk_cell hp_w5 3).trans rfl
  have yw5_4 : w5.cell? ⟨w.heap.size, 4, none⟩ = some (.int .i64 0) := (blk_cell hp_w5 4).trans rfl
  have yw5_5 : w5.cell? ⟨w.heap.size, 5, none⟩ = some (.slice (some ⟨b, 0, none⟩) 2 c) := (blk_cell hp_w5 5).trans rfl
  have xw52_0 : w5.cell? ⟨b, 6, none⟩ = some (.string s20) := (blk_cell hb_w5 6).trans rfl
  have xw52_1 : w5.cell? ⟨b, 7, none⟩ = some (.int .i64 n21) := (blk_cell hb_w5 7).trans rfl
  have xw52_2 : w5.cell? ⟨b, 8, none⟩ = some (.string s22) := (blk_cell hb_w5 8).trans rfl
  have xw52_3 : w5.cell? ⟨b, 9, none⟩ = some (.int .i64 n23) := (blk_cell hb_w5 9).trans rfl
  have xw52_4 : w5.cell? ⟨b, 10, none⟩ = some (.int .i64 n24) := (blk_cell hb_w5 10).trans rfl
  have xw52_5 : w5.cell? ⟨b, 11, none⟩ = some (.slice A2 l2 c2) := (blk_cell hb_w5 11).trans rfl
  have lp_w5 := blk_lt hp_w5
  have lb_w5 := blk_lt hb_w5
  clear hp_w5 hb_w5
  have HT25 := Aside0.mk (hc5.tr HCO.out HT2.out)
  have HC5 := Aside0.mk hc5
  clear hc5
  go_wp2_with fail
  with_reducible refine (put_cs ihb HC5.out (by first | omega | (simp only [patch_len, List.length_append, List.length_cons, List.length_nil]; omega)) lo _ _ _ _ _ _ HT25.out).mono ?_
  rintro e' w6 ⟨rfl, hc6⟩
  have HC6 := Aside0.mk hc6
  clear hc6
  go_wp2_with fail
  with_reducible refine (add_cs HC6.out (by first | omega | (simp only [patch_len, List.length_append, List.length_cons, List.length_nil]; omega)) (J 5 0) _ _ _ _ _ _ (by simp [icells, mk])).mono ?_
  rintro e' w7 ⟨rfl, hc7⟩
  have HC7 := Aside0.mk hc7
  clear hc7
  go_wp2_with fail
  with_reducible refine (here_li HC7.out ((put l e1 ++ [J 8 0] ++ [J 0 1]).length) (by first | omega | (simp only [patch_len, List.length_append, List.length_cons, List.length_nil]; omega)) (by first | omega | (simp only [patch_len, List.length_append, List.length_cons, List.length_nil]; omega)) _ (by simp)).mono ?_
  rintro e' w8 ⟨rfl, hc8⟩
  go_wp2_with fail
  go_end0
  exact ⟨rfl, hc8.code, HK.out.trans hc8.keep⟩

set_option maxHeartbeats 4000000 in
set_option maxRecDepth 100000 in
theorem put_tern (base g : Nat) (pos : Nat) (e1 e2 e3 : Ex) (iha : PutAt base g e1) (ihb : PutAt base g e2) (ihc : PutAt base g e3) : PutAt base g (.tern pos e1 e2 e3) := by
  intro lo cs l w hT hC hl
  rw [put]
  obtain ⟨b, c, k1, k2, k3, z, hb, hc, hh, rfl, hT1, hT2, hT3⟩ := hT
  have hsz : sz (.tern pos e1 e2 e3) = sz e1 + sz e2 + sz e3 + 1 := rfl
  have hpl1 := put_len e1 l
  have hpl2 := put_len e2 (put l e1 ++ [J 8 0])
  have hpl3 := put_len e3 (patch (put (put l e1 ++ [J 8 0]) e2 ++ [J 7 0]) (put l e1).length)
  simp only [patch_len, List.length_append, List.length_cons, List.length_nil] at hpl2 hpl3
  obtain ⟨s10, n11, s12, n13, n14, A1, l1, c1, rfl⟩ := hT1.six
  obtain ⟨s20, n21, s22, n23, n24, A2, l2, c2, rfl⟩ := hT2.six
  obtain ⟨s30, n31, s32, n33, n34, A3, l3, c3, rfl⟩ := hT3.six
  have hblt := blk_lt hh
  have hgl := hC.lt
  have hgb : b ≠ g := by obtain ⟨⟨v, hg, _⟩, _⟩ := hC; exact blk_ne hh hg (by decide)
  have xw1_0 : w.cell? ⟨b, 0, none⟩ = some (.string s10) := (blk_cell hh 0).trans rfl
  have xw1_1 : w.cell? ⟨b, 1, none⟩ = some (.int .i64 n11) := (blk_cell hh 1).trans rfl
  have xw1_2 : w.cell? ⟨b, 2, none⟩ = some (.string s12) := (blk_cell hh 2).trans rfl
  have xw1_3 : w.cell? ⟨b, 3, none⟩ = some (.int .i64 n13) := (blk_cell hh 3).trans rfl
  have xw1_4 : w.cell? ⟨b, 4, none⟩ = some (.int .i64 n14) := (blk_cell hh 4).trans rfl
  have xw1_5 : w.cell? ⟨b, 5, none⟩ = some (.slice A1 l1 c1) := (blk_cell hh 5).trans rfl
  have xw2_0 : w.cell? ⟨b, 6, none⟩ = some (.string s20) := (blk_cell hh 6).trans rfl
  have xw2_1 : w.cell? ⟨b, 7, none⟩ = some (.int .i64 n21) := (blk_cell hh 7).trans rfl
  have xw2_2 : w.cell? ⟨b, 8, none⟩ = some (.string s22) := (blk_cell hh 8).trans rfl
  have xw2_3 : w.cell? ⟨b, 9, none⟩ = some (.int .i64 n23) := (blk_cell hh 9).trans rfl
  have xw2_4 : w.cell? ⟨b, 10, none⟩ = some (.int .i64 n24) := (blk_cell hh 10).trans rfl
  have xw2_5 : w.cell? ⟨b, 11, none⟩ = some (.slice A2 l2 c2) := (blk_cell hh 11).trans rfl
  have xw3_0 : w.cell? ⟨b, 12, none⟩ = some (.string s30) := (blk_cell hh 12).trans rfl
  have xw3_1 : w.cell? ⟨b, 13, none⟩ = some (.int .i64 n31) := (blk_cell hh 13).trans rfl
  have xw3_2 : w.cell? ⟨b, 14, none⟩ = some (.string s32) := (blk_cell hh 14).trans rfl
  have xw3_3 : w.cell? ⟨b, 15, none⟩ = some (.int .i64 n33) := (blk_cell hh 15).trans rfl
  have xw3_4 : w.cell? ⟨b, 16, none⟩ = some (.int .i64 n34) := (blk_cell hh 16).trans rfl
  have xw3_5 : w.cell? ⟨b, 17, none⟩ = some (.slice A3 l3 c3) := (blk_cell hh 17).trans rfl
  have HC := Aside0.mk (CS.refl (hC.alloc (.cells #[.string (mk [63]), .int .i64 0, .string (mk []), .int .i64 (pos : Int), .int .i64 0, .slice (some ⟨b, 0, none⟩) 3 c] 63)))
  have HK := Aside0.mk ((CodeKeep.refl base g w).alloc (by omega) (.cells #[.string (mk [63]), .int .i64 0, .string (mk []), .int .i64 (pos : Int), .int .i64 0, .slice (some ⟨b, 0, none⟩) 3 c] 63))
  have HROW := Aside0.mk (blk_alloc hh (.cells #[.string (mk [63]), .int .i64 0, .string (mk []), .int .i64 (pos : Int), .int .i64 0, .slice (some ⟨b, 0, none⟩) 3 c] 63))
  have HT1 := Aside0.mk (tr_alloc hT1 (.cells #[.string (mk [63]), .int .i64 0, .string (mk []), .int .i64 (pos : Int), .int .i64 0, .slice (some ⟨b, 0, none⟩) 3 c] 63))
  have HT2 := Aside0.mk (tr_alloc hT2 (.cells #[.string (mk [63]), .int .i64 0, .string (mk []), .int .i64 (pos : Int), .int .i64 0, .slice (some ⟨b, 0, none⟩) 3 c] 63))
  have HT3 := Aside0.mk (tr_alloc hT3 (.cells #[.string (mk [63]), .int .i64 0, .string (mk []), .int .i64 (pos : Int), .int .i64 0, .slice (some ⟨b, 0, none⟩) 3 c] 63))
  have HCO := Aside0.mk (hC.alloc (.cells #[.string (mk [63]), .int .i64 0, .string (mk []), .int .i64 (pos : Int), .int .i64 0, .slice (some ⟨b, 0, none⟩) 3 c] 63))
  clear hC hh hT1 hT2 hT3
  have h0 := op_no (op := [63]) (v := [110, 117, 109]) (by decide)
  have h1 := op_no (op := [63]) (v := [110, 97, 109, 101]) (by decide)
  have h2 := op_no (op := [63]) (v := [117, 43]) (by decide)
  have h3 := op_no (op := [63]) (v := [117, 45]) (by decide)
  have h4 := op_no (op := [63]) (v := [33]) (by decide)
  have h5 := op_no (op := [63]) (v := [126]) (by decide)
  have h6 := op_no (op := [63]) (v := [38, 38]) (by decide)
  have h7 := op_no (op := [63]) (v := [124, 124]) (by decide)
  have h8 := op_yes (op := [63]) (v := [63]) rfl
  show Calls _ _ #[_, .agg #[.string (mk [63]), .int .i64 ((0 : Nat) : Int), .string (mk []), .int .i64 (pos : Int), .int .i64 ((0 : Nat) : Int), .slice (some ⟨b, 0, none⟩) 3 c]] _ _
  go_enter Tryz.func49, Tryz.ntmps49
  go_wp2_with fail
  with_reducible refine (put_cs iha HC.out (by omega) lo _ _ _ _ _ _ HT1.out).mono ?_
  rintro e' w1 ⟨rfl, hc1⟩
  have HC1 := Aside0.mk hc1
  clear hc1
  go_wp2_with fail
  with_reducible refine (add_cs HC1.out (by first | omega | (simp only [patch_len, List.length_append, List.length_cons, List.length_nil]; omega)) (J 8 0) _ _ _ _ _ _ (by simp [icells, mk])).mono ?_
  rintro e' w2 ⟨rfl, hc2⟩
  have hp_w2 := (hc2.keep.block w.heap.size _ _ (heap_new rfl _) (by decide) (by omega)).trans (heap_new rfl _)
  have hb_w2 := (hc2.keep.block b _ _ HROW.out (by decide) (by omega)).trans HROW.out
  have yw2_0 : w2.cell? ⟨w.heap.size, 0, none⟩ = some (.string (mk [63])) := (blk_cell hp_w2 0).trans rfl
  have yw2_1 : w2.cell? ⟨w.heap.size, 1, none⟩ = some (.int .i64 0) := (blk_cell hp_w2 1).trans rfl
  have yw2_2 : w2.cell? ⟨w.heap.size, 2, none⟩ = some (.string (mk [])) := (blk_cell hp_w2 2).trans rfl
  have yw2_3 : w2.cell? ⟨w.heap.size, 3, none⟩ = some (.int .i64 (pos : Int)) := (blk_cell hp_w2 3).trans rfl
  have yw2_4 : w2.cell? ⟨w.heap.size, 4, none⟩ = some (.int .i64 0) := (blk_cell hp_w2 4).trans rfl
  have yw2_5 : w2.cell? ⟨w.heap.size, 5, none⟩ = some (.slice (some ⟨b, 0, none⟩) 3 c) := (blk_cell hp_w2 5).trans rfl
  have xw22_0 : w2.cell? ⟨b, 6, none⟩ = some (.string s20) := (blk_cell hb_w2 6).trans rfl
  have xw22_1 : w2.cell? ⟨b, 7, none⟩ = some (.int .i64 n21) := (blk_cell hb_w2 7).trans rfl
  have xw22_2 : w2.cell? ⟨b, 8, none⟩ = some (.string s22) := (blk_cell hb_w2 8).trans rfl
  have xw22_3 : w2.cell? ⟨b, 9, none⟩ = some (.int .i64 n23) := (blk_cell hb_w2 9).trans rfl
  have xw22_4 : w2.cell? ⟨b, 10, none⟩ = some (.int .i64 n24) := (blk_cell hb_w2 10).trans rfl
  have xw22_5 : w2.cell? ⟨b, 11, none⟩ = some (.slice A2 l2 c2) := (blk_cell hb_w2 11).trans rfl
  have lp_w2 := blk_lt hp_w2
  have lb_w2 := blk_lt hb_w2
  clear hp_w2 hb_w2
  have HT22 := Aside0.mk (hc2.tr HCO.out HT2.out)
  have HC2 := Aside0.mk hc2
  clear hc2
  go_wp2_with fail
  with_reducible refine (put_cs ihb HC2.out (by first | omega | (simp only [patch_len, List.length_append, List.length_cons, List.length_nil]; omega)) lo _ _ _ _ _ _ HT22.out).mono ?_
  rintro e' w3 ⟨rfl, hc3⟩
  have HC3 := Aside0.mk hc3
  clear hc3
  go_wp2_with fail
  with_reducible refine (add_cs HC3.out (by first | omega | (simp only [patch_len, List.length_append, List.length_cons, List.length_nil]; omega)) (J 7 0) _ _ _ _ _ _ (by simp [icells, mk])).mono ?_
  rintro e' w4 ⟨rfl, hc4⟩
  have HC4 := Aside0.mk hc4
  clear hc4
  go_wp2_with fail
  with_reducible refine (here_li HC4.out ((put l e1).length) (by first | omega | (simp only [patch_len, List.length_append, List.length_cons, List.length_nil]; omega)) (by first | omega | (simp only [patch_len, List.length_append, List.length_cons, List.length_nil]; omega)) _ (by simp)).mono ?_
  rintro e' w5 ⟨rfl, hc5⟩
  have hp_w5 := (hc5.keep.block w.heap.size _ _ (heap_new rfl _) (by decide) (by omega)).trans (heap_new rfl _)
  have hb_w5 := (hc5.keep.block b _ _ HROW.out (by decide) (by omega)).trans HROW.out
  have yw5_0 : w5.cell? ⟨w.heap.size, 0, none⟩ = some (.string (mk [63])) := (blk_cell hp_w5 0).trans rfl
  have yw5_1 : w5.cell? ⟨w.heap.size, 1, none⟩ = some (.int .i64 0) := (blk_cell hp_w5 1).trans rfl
  have yw5_2 : w5.cell? ⟨w.heap.size, 2, none⟩ = some (.string (mk [])) := (blk_cell hp_w5 2).trans rfl
  have yw5_3 : w5.cell? ⟨w.heap.size, 3, none⟩ = some (.int .i64 (pos : Int)) := (blk_cell hp_w5 3).trans rfl
  have yw5_4 : w5.cell? ⟨w.heap.size, 4, none⟩ = some (.int .i64 0) := (blk_cell hp_w5 4).trans rfl
  have yw5_5 : w5.cell? ⟨w.heap.size, 5, none⟩ = some (.slice (some ⟨b, 0, none⟩) 3 c) := (blk_cell hp_w5 5).trans rfl
  have xw53_0 : w5.cell? ⟨b, 12, none⟩ = some (.string s30) := (blk_cell hb_w5 12).trans rfl
  have xw53_1 : w5.cell? ⟨b, 13, none⟩ = some (.int .i64 n31) := (blk_cell hb_w5 13).trans rfl
  have xw53_2 : w5.cell? ⟨b, 14, none⟩ = some (.string s32) := (blk_cell hb_w5 14).trans rfl
  have xw53_3 : w5.cell? ⟨b, 15, none⟩ = some (.int .i64 n33) := (blk_cell hb_w5 15).trans rfl
  have xw53_4 : w5.cell? ⟨b, 16, none⟩ = some (.int .i64 n34) := (blk_cell hb_w5 16).trans rfl
  have xw53_5 : w5.cell? ⟨b, 17, none⟩ = some (.slice A3 l3 c3) := (blk_cell hb_w5 17).trans rfl
  have lp_w5 := blk_lt hp_w5
  have lb_w5 := blk_lt hb_w5
  clear hp_w5 hb_w5
  have HT35 := Aside0.mk (hc5.tr HCO.out HT3.out)
  have HC5 := Aside0.mk hc5
  clear hc5
  go_wp2_with fail
  with_reducible refine (put_cs ihc HC5.out (by first | omega | (simp only [patch_len, List.length_append, List.length_cons, List.length_nil]; omega)) lo _ _ _ _ _ _ HT35.out).mono ?_
  rintro e' w6 ⟨rfl, hc6⟩
  have HC6 := Aside0.mk hc6
  clear hc6
  go_wp2_with fail
  with_reducible refine (here_li HC6.out ((put (put l e1 ++ [J 8 0]) e2).length) (by first | omega | (simp only [patch_len, List.length_append, List.length_cons, List.length_nil]; omega)) (by first | omega | (simp only [patch_len, List.length_append, List.length_cons, List.length_nil]; omega)) _ (by simp)).mono ?_
  rintro e' w7 ⟨rfl, hc7⟩
  go_wp2_with fail
  go_end0
  exact ⟨rfl, hc7.code, HK.out.trans hc7.keep⟩
end Go.Proofs.YtjllmamblkejjaaGreatDoor
end

/- What trees the parser makes; all of them are compiled. No conditions. -/
section
set_option linter.unusedVariables false
namespace Go.Proofs.YtjllmamblkejjaaGreatDoor
open Go.RowKit Go.Proofs.YtjllmamblkejjaaGreatDoorW.PrintWords Go.Proofs.YtjllmamblkejjaaGreatDoorW.PrintLast Go.Proofs.YtjllmamblkejjaaGreatDoorW.PrintMore
open PQA Sp

def Wf : Ex → Prop
  | .num n _ => n ≤ maxI
  | .name x _ => x ≠ []
  | .un op _ e => (op = [117, 43] ∨ op = [117, 45] ∨ op = [33] ∨ op = [126]) ∧ Wf e
  | .bin op _ a b => 0 < strength op ∧ Wf a ∧ Wf b
  | .tern _ c a b => Wf c ∧ Wf a ∧ Wf b
  | .asg op x _ _ e => assigns op = true ∧ op.length ≤ 3 ∧ x ≠ [] ∧ Wf e
structure TW (t : Tok) : Prop where
  name : t.op = wName → t.name ≠ []
  num : t.num ≤ maxI
  asg : assigns t.op = true → t.op.length ≤ 3
def WR (r : Res Ex) : Prop := ∀ e t', r = .ok e t' → Wf e ∧ TW t'
theorem WR.bind {r : Res Ex} {f : Ex → Tok → Res Ex} (h : WR r) (k : ∀ e t', Wf e → TW t' → WR (f e t')) : WR (r.bind f) := by
  cases r with
  | ok e t => exact k e t (h e t rfl).1 (h e t rfl).2
  | err c p => intro e t' h'; simp [Res.bind] at h'
  | out => intro e t' h'; simp [Res.bind] at h'
theorem WR.val {e : Ex} {t : Tok} (h : Wf e) (ht : TW t) : WR (.ok e t) := by
  intro e' t' he
  injection he with h1 h2
  subst h1 h2
  exact ⟨h, ht⟩
theorem WR.bar (t : Tok) : WR (bar t) := by intro e' t' he; simp [Sp.bar] at he
theorem next_tw (b : Bs) (a : Nat) : TW (next b a) := by
  have e1 : ([] : Bs) ≠ wName := by decide
  have e2 : wNum ≠ wName := by decide
  have e3 : wNone ≠ wName := by decide
  have a1 : assigns [] = false := by decide
  have a2 : assigns wNum = false := by decide
  have a3 : assigns wNone = false := by decide
  have a4 : assigns wName = false := by decide
  unfold next
  generalize b.drop (a + skip (b.drop a)) = l
  unfold tokAt
  split
  · exact ⟨fun h => absurd h e1, Nat.zero_le _, fun h => by rw [a1] at h; cases h⟩
  · split
    · exact ⟨fun h => absurd h e2, const_max _, fun h => by rw [a2] at h; cases h⟩
    · split
      · rename_i hz
        exact ⟨fun _ h => by
          have hl := congrArg List.length h
          have := name_le l
          simp only [List.length_take, List.length_nil] at hl
          omega, Nat.zero_le _, fun h => by rw [a4] at h; cases h⟩
      · split
        · rename_i o ho
          have hm := List.mem_of_find?_eq_some ho
          have h3 : ∀ x ∈ ops, x.length ≤ 3 ∧ x ≠ wName := by decide
          exact ⟨fun h => absurd h (h3 o hm).2, Nat.zero_le _, fun _ => (h3 o hm).1⟩
        · exact ⟨fun h => absurd h e3, Nat.zero_le _, fun h => by rw [a3] at h; cases h⟩
theorem constant_wr (b : Bs) (t : Tok) (ht : TW t) : WR (constant b t) := by
  unfold constant
  split
  · intro e t' h; simp at h
  · split
    · exact WR.val ht.num (next_tw _ _)
    · split
      · intro e t' h; simp at h
      · exact WR.val ht.num (next_tw _ _)
theorem wf_all (b : Bs) : ∀ f, (∀ t, TW t → WR (expr b f t)) ∧ (∀ t, TW t → WR (Sp.cond b f t)) ∧ (∀ least t, TW t → WR (bin b f least t)) ∧ (∀ least e t, Wf e → TW t → WR (loop b f least e t)) ∧ (∀ t, TW t → WR (operand b f t)) := by
  intro f
  induction f with
  | zero =>
    have ho : WR .out := by intro e t h; simp at h
    exact ⟨fun t _ => by rw [expr]; exact ho, fun t _ => by rw [Sp.cond]; exact ho, fun l t _ => by rw [bin]; exact ho, fun l e t _ _ => by rw [loop]; exact ho, fun t _ => by rw [operand]; exact ho⟩
  | succ f ih =>
    obtain ⟨hE, hC, hB, hL, hO⟩ := ih
    refine ⟨fun t ht => ?_, fun t ht => ?_, fun least t ht => ?_, fun least e t he ht => ?_, fun t ht => ?_⟩
    · rw [expr]
      split
      · rename_i h
        exact (hE _ (next_tw _ _)).bind fun e t' h1 h2 => WR.val ⟨h.2, (next_tw _ _).asg h.2, ht.name h.1, h1⟩ h2
      · exact hC t ht
    · rw [Sp.cond]
      refine (hB 0 t ht).bind fun e t1 h1 h2 => ?_
      split
      · refine (hE _ (next_tw _ _)).bind fun a t2 h3 h4 => ?_
        split
        · exact (hC _ (next_tw _ _)).bind fun c t3 h5 h6 => WR.val ⟨h1, h3, h5⟩ h6
        · exact WR.bar _
      · exact WR.val h1 h2
    · rw [bin]
      exact (hO t ht).bind fun e t1 h1 h2 => hL least e t1 h1 h2
    · rw [loop]
      split
      · exact WR.val he ht
      · rename_i h
        exact (hB _ _ (next_tw _ _)).bind fun k t' h1 h2 => hL least _ t' ⟨by omega, he, h1⟩ h2
    · rw [operand]
      split
      · rename_i h
        refine (hO _ (next_tw _ _)).bind fun e t' h1 h2 => WR.val ⟨?_, h1⟩ h2
        rcases h with h | h <;> rw [h] <;> simp
      · split
        · rename_i h
          refine (hO _ (next_tw _ _)).bind fun e t' h1 h2 => WR.val ⟨?_, h1⟩ h2
          rcases h with h | h <;> rw [h] <;> simp
        · split
          · exact constant_wr b t ht
          · split
            · rename_i h
              exact WR.val (ht.name h) (next_tw _ _)
            · split
              · refine (hE _ (next_tw _ _)).bind fun e t' h1 h2 => ?_
                split
                · exact WR.val h1 (next_tw _ _)
                · exact WR.bar _
              · exact WR.bar _
theorem parse_wf (b : Bs) (f : Nat) (ex : Ex) (t : Tok) (h : parse b f = .ok ex t) : Wf ex := by
  unfold parse at h
  have hx : WR ((expr b f (next b 0)).bind fun e t => if t.op = [] then .ok e t else bar t) := by
    refine ((wf_all b f).1 _ (next_tw _ _)).bind fun e t h1 h2 => ?_
    split
    · exact WR.val h1 h2
    · exact WR.bar _
  exact (hx ex t h).1
theorem assigns_not_own (op : Bs) (h : assigns op = true) : ¬ own op ∧ 1 ≤ op.length := by
  refine ⟨?_, ?_⟩
  · rintro (h' | h' | h' | h' | h' | h' | h' | h' | h') <;> rw [h'] at h <;> exact absurd h (by decide)
  · cases op with
    | nil => exact absurd h (by decide)
    | cons => simp
theorem put_all (base g : Nat) : ∀ ex : Ex, Wf ex → PutAt base g ex
  | .num n pos, _ => put_num base g n pos
  | .name x pos, _ => put_name base g x pos
  | .un op pos e, h => put_un base g op pos e h.1 (put_all base g e h.2)
  | .bin op pos a b, h => by
    have ha := put_all base g a h.2.1
    have hb := put_all base g b h.2.2
    by_cases h1 : op = [38, 38]
    · exact put_and base g op pos a b h1 ha hb
    by_cases h2 : op = [124, 124]
    · exact put_or base g op pos a b h2 ha hb
    refine put_bin base g op pos a b ?_ ha hb
    have hs := h.1
    rintro (h' | h' | h' | h' | h' | h' | h' | h' | h') <;> first | exact h1 h' | exact h2 h' | (rw [h'] at hs; exact absurd hs (by decide))
  | .tern pos c a b, h => put_tern base g pos c a b (put_all base g c h.1) (put_all base g a h.2.1) (put_all base g b h.2.2)
  | .asg op x pos apos e, h => put_asg base g op x pos apos e (assigns_not_own op h.1).1 (assigns_not_own op h.1).2 h.2.1 h.2.2.1 (put_all base g e h.2.2.2)
end Go.Proofs.YtjllmamblkejjaaGreatDoor
end

/- Plain law: variables as sorted lists of names and values, and as what a map reads as. No program in sight. No conditions. -/
section
set_option linter.unusedVariables false
namespace Go.Proofs.YtjllmamblkejjaaGreatDoor
open Go.Maps Go.WideShapes Sp

abbrev Vs := List (Bs × Bs)
def vins (x : Bs × Bs) : Vs → Vs
  | [] => [x]
  | y :: r => if bytesBefore x.1 y.1 then x :: y :: r else y :: vins x r
def mdel (k : Bs) (m : Vs) : Vs := m.filter fun p => !(p.1 == k)
def mset (k v : Bs) (m : Vs) : Vs := vins (k, v) (mdel k m)
def mget (k : Bs) (m : Vs) : Option Bs := (m.find? fun p => p.1 == k).map (·.2)
def ent (p : Bs × Bs) : Lit × DataW Unit := (.string p.1, .lit (.string p.2))
/-- What the map reads as. -/
def dat (m : Vs) : DataW Unit := .map (m.map ent)
def Rising (m : Vs) : Prop := m.Pairwise fun p q => bytesBefore p.1 q.1 = true

theorem bef_irr (a : Bs) : bytesBefore a a = false := WideAt.bytes_irrefl a
theorem bef_tot {a b : Bs} (h : a ≠ b) : bytesBefore a b = true ∨ bytesBefore b a = true := WideAt.bytes_total a b h
theorem bef_tr {a b c : Bs} (h : bytesBefore a b = true) (k : bytesBefore b c = true) : bytesBefore a c = true := bytes_trans a b c h k
theorem bef_ne {a b : Bs} (h : bytesBefore a b = true) : a ≠ b := fun e => by rw [e, bef_irr] at h; cases h

theorem ent_vins (x : Bs × Bs) : ∀ m : Vs, DataW.insert (ent x) (m.map ent) = (vins x m).map ent
  | [] => rfl
  | y :: r => by
    show (if (Lit.string x.1).before (Lit.string y.1) then _ else _) = _
    rw [vins]
    by_cases h : bytesBefore x.1 y.1 = true
    · rw [if_pos h, if_pos (show (Lit.string x.1).before (Lit.string y.1) = true from h)]; rfl
    · rw [if_neg h, if_neg (show ¬ (Lit.string x.1).before (Lit.string y.1) = true from h), List.map_cons, ← ent_vins x r]
theorem ent_del (k : Bs) (m : Vs) : (m.map ent).filter (fun p => !p.1.sameKey (.string k)) = (mdel k m).map ent := by
  unfold mdel
  rw [List.filter_map]
  rfl
theorem dat_put (k v : Bs) (m : Vs) : (dat m).put (.string k) (.lit (.string v)) = dat (mset k v m) := by
  show DataW.map (DataW.insert (ent (k, v)) ((m.map ent).filter fun p => !p.1.sameKey (.string k))) = _
  rw [ent_del, ent_vins]; rfl
theorem dat_del (k : Bs) (m : Vs) : (dat m).del (.string k) = dat (mdel k m) := by
  show DataW.map ((m.map ent).filter fun p => !p.1.sameKey (.string k)) = _
  rw [ent_del]; rfl
theorem dat_has (k : Bs) (m : Vs) : Maps.has (dat m) (.string k) = (mget k m).isSome := by
  unfold mget
  show (m.map ent).any (fun p => p.1.sameKey (.string k)) = _
  rw [List.any_map, Option.isSome_map, Bool.eq_iff_iff, List.find?_isSome, List.any_eq_true]
  rfl
theorem dat_at (k : Bs) (m : Vs) (d : Bs) : (dat m).atKey (.string k) (.lit (.string d)) = .lit (.string ((mget k m).getD d)) := by
  unfold DataW.atKey dat mget
  have hc : ((fun p : Lit × DataW Unit => p.1.sameKey (.string k)) ∘ ent) = fun p => p.1 == k := rfl
  simp only [List.find?_map, hc]
  cases m.find? (fun p => p.1 == k) <;> rfl
theorem dat_size (m : Vs) : Maps.size (dat m) = m.length := by simp [dat, Maps.size]

/-! ### sorted lists -/
theorem mem_vins (x p : Bs × Bs) : ∀ m : Vs, p ∈ vins x m ↔ p = x ∨ p ∈ m
  | [] => by simp [vins]
  | y :: r => by
    rw [vins]
    split
    · simp
    · simp only [List.mem_cons, mem_vins x p r]
      constructor
      · rintro (h | h | h) <;> simp [h]
      · rintro (h | h | h) <;> simp [h]
theorem mem_mdel (k : Bs) (p : Bs × Bs) (m : Vs) : p ∈ mdel k m ↔ p ∈ m ∧ p.1 ≠ k := by simp [mdel]
theorem mem_mset (k v : Bs) (p : Bs × Bs) (m : Vs) : p ∈ mset k v m ↔ p = (k, v) ∨ (p ∈ m ∧ p.1 ≠ k) := by simp [mset, mem_vins, mem_mdel]
theorem rising_del {k : Bs} {m : Vs} (h : Rising m) : Rising (mdel k m) := h.filter _
theorem rising_vins (x : Bs × Bs) : ∀ m : Vs, Rising m → (∀ p ∈ m, p.1 ≠ x.1) → Rising (vins x m)
  | [], _, _ => by simp [vins, Rising]
  | y :: r, h, hne => by
    obtain ⟨h1, h2⟩ := List.pairwise_cons.1 h
    rw [vins]
    split
    · rename_i hb
      refine List.pairwise_cons.2 ⟨fun q hq => ?_, h⟩
      rcases List.mem_cons.1 hq with rfl | hq
      · exact hb
      · exact bef_tr hb (h1 q hq)
    · rename_i hb
      have hyx : bytesBefore y.1 x.1 = true := by
        rcases bef_tot (hne y (by simp)).symm with h' | h'
        · exact absurd h' hb
        · exact h'
      refine List.pairwise_cons.2 ⟨fun q hq => ?_, rising_vins x r h2 fun p hp => hne p (by simp [hp])⟩
      rcases (mem_vins x q r).1 hq with rfl | hq
      · exact hyx
      · exact h1 q hq
theorem rising_set {k v : Bs} {m : Vs} (h : Rising m) : Rising (mset k v m) :=
  rising_vins _ _ (rising_del h) fun p hp => ((mem_mdel k p m).1 hp).2
theorem len_vins (x : Bs × Bs) : ∀ m : Vs, (vins x m).length = m.length + 1
  | [] => rfl
  | y :: r => by rw [vins]; split <;> simp [len_vins x r]
theorem len_mset (k v : Bs) (m : Vs) : (mset k v m).length ≤ m.length + 1 := by
  unfold mset
  rw [len_vins]
  have := List.length_filter_le (fun p : Bs × Bs => !(p.1 == k)) m
  unfold mdel; omega
theorem len_mdel (k : Bs) (m : Vs) : (mdel k m).length ≤ m.length := List.length_filter_le _ m
theorem mget_mem {k : Bs} {v : Bs} : ∀ {m : Vs}, Rising m → (mget k m = some v ↔ (k, v) ∈ m)
  | [], _ => by simp [mget]
  | y :: r, h => by
    obtain ⟨h1, h2⟩ := List.pairwise_cons.1 h
    unfold mget
    rw [List.find?_cons]
    by_cases e : y.1 = k
    · rw [show (y.1 == k) = true from by simp [e]]
      simp only [Option.map_some, Option.some.injEq, List.mem_cons]
      constructor
      · rintro rfl; left; rw [← e]
      · rintro (h | h)
        · rw [← h]
        · exact absurd e (bef_ne (h1 _ h))
    · rw [show (y.1 == k) = false from by simp [e]]
      have := mget_mem (k := k) (v := v) h2
      unfold mget at this
      rw [List.mem_cons, this]
      constructor
      · intro h; exact .inr h
      · rintro (h | h)
        · exact absurd (by rw [← h]) e
        · exact h
theorem vs_ext : ∀ {m m' : Vs}, Rising m → Rising m' → (∀ p, p ∈ m ↔ p ∈ m') → m = m'
  | [], [], _, _, _ => rfl
  | [], b :: s, _, _, h => by have := (h b).2 (by simp); simp at this
  | a :: r, [], _, _, h => by have := (h a).1 (by simp); simp at this
  | a :: r, b :: s, h1, h2, h => by
    obtain ⟨a1, a2⟩ := List.pairwise_cons.1 h1
    obtain ⟨b1, b2⟩ := List.pairwise_cons.1 h2
    have hab : a = b := by
      rcases List.mem_cons.1 ((h a).1 (by simp)) with e | ha
      · exact e
      · rcases List.mem_cons.1 ((h b).2 (by simp)) with e | hb
        · exact e.symm
        · exact absurd rfl (bef_ne (bef_tr (a1 b hb) (b1 a ha)))
    subst hab
    rw [vs_ext a2 b2 fun p => ⟨fun hp => by
      rcases List.mem_cons.1 ((h p).1 (by simp [hp])) with e | hp'
      · exact absurd rfl (bef_ne (e ▸ a1 p hp))
      · exact hp', fun hp => by
      rcases List.mem_cons.1 ((h p).2 (by simp [hp])) with e | hp'
      · exact absurd rfl (bef_ne (e ▸ b1 p hp))
      · exact hp'⟩]
theorem vs_ext_get {m m' : Vs} (h : Rising m) (h' : Rising m') (hg : ∀ k, mget k m = mget k m') : m = m' :=
  vs_ext h h' fun p => by
    obtain ⟨k, v⟩ := p
    rw [← mget_mem h, ← mget_mem h', hg k]
theorem mget_set_same {k v : Bs} {m : Vs} (h : Rising m) : mget k (mset k v m) = some v := (mget_mem (rising_set h)).2 ((mem_mset k v _ m).2 (.inl rfl))
theorem opt_ext {α : Type} {a b : Option α} (h : ∀ v, a = some v ↔ b = some v) : a = b := by
  cases a with
  | none => cases b with
    | none => rfl
    | some v => exact (h v).2 rfl
  | some v => exact ((h v).1 rfl).symm
theorem mget_set_other {k v k' : Bs} {m : Vs} (h : Rising m) (hne : k' ≠ k) : mget k' (mset k v m) = mget k' m := by
  refine opt_ext fun x => ?_
  rw [mget_mem (rising_set h), mget_mem h, mem_mset]
  constructor
  · rintro (e | ⟨hm, _⟩)
    · exact absurd (congrArg Prod.fst e) hne
    · exact hm
  · exact fun hm => .inr ⟨hm, hne⟩
theorem mget_del_same {k : Bs} {m : Vs} : mget k (mdel k m) = none := by
  unfold mget mdel
  rw [Option.map_eq_none_iff, List.find?_eq_none]
  intro p hp
  have := (List.mem_filter.1 hp).2
  simpa using this
theorem mget_del_other {k k' : Bs} {m : Vs} (h : Rising m) (hne : k' ≠ k) : mget k' (mdel k m) = mget k' m := by
  refine opt_ext fun x => ?_
  rw [mget_mem (rising_del h), mget_mem h, mem_mdel]
  exact ⟨fun a => a.1, fun a => ⟨a, hne⟩⟩
end Go.Proofs.YtjllmamblkejjaaGreatDoor
end

/- Plain law: the machine as a function on instructions; what an expression's code comes to. No program in sight. No conditions. -/
section
set_option linter.unusedVariables false
namespace Go.Proofs.YtjllmamblkejjaaGreatDoor
open Sp

def white (c : UInt8) : Bool := c == 32 || c == 9 || c == 10
def trimL (l : Bs) : Bs := l.dropWhile white
def trimR (l : Bs) : Bs := (l.reverse.dropWhile white).reverse
def maxText : Bs := [57, 50, 50, 51, 51, 55, 50, 48, 51, 54, 56, 53, 52, 55, 55, 53, 56, 48, 56]
def signed (t : Bs) : Bool := t.head? == some 43 || t.head? == some 45
def unsign (t : Bs) : Bs := if signed t = true then t.tail else t
def below0 (t : Bs) : Bool := t.head? == some 45
/-- A value's number, and the code. -/
def numOf (u : Bs) (below : Bool) : Int × Nat :=
  if (const u).2.1 = 0 ∨ (const u).2.1 < u.length then (0, 13)
  else if (const u).2.2 = true ∧ below = true ∧ u = maxText then (-9223372036854775808, 0)
  else if (const u).2.2 = true then (0, 6)
  else if below = true then (-((const u).1 : Int), 0) else ((const u).1, 0)
def number (s : Bs) : Int × Nat :=
  if s = [] then (0, 0) else numOf (unsign (trimR (trimL s))) (below0 (trimR (trimL s)))
def decN (n : Nat) : Bs := if n < 10 then [48 + UInt8.ofNat n] else decN (n / 10) ++ [48 + UInt8.ofNat (n % 10)]
def text (n : Int) : Bs := if n < 0 then 45 :: decN n.natAbs else decN n.natAbs

/-- What the machine is handed: the variables' values, and the operators. -/
structure Mach where
  get : Bs → Bs
  one : Bs → Int → Int
  two : Bs → Int → Int → Int
structure St where
  at_ : Nat
  stack : List Int
  set : Vs
  steps : Nat
inductive Out where
  | val (x : Int) (set : Vs) (steps : Nat)
  | err (code pos steps : Nat)
inductive Step where
  | on (s : St)
  | err (code pos : Nat)
  | stuck
def tr (b : Bool) : Int := if b = true then 1 else 0
def look (M : Mach) (set : Vs) (x : Bs) : Bs := (mget x set).getD (M.get x)
def divides (by_ : Bs) : Prop := by_ = [47] ∨ by_ = [37]
instance (by_ : Bs) : Decidable (divides by_) := inferInstanceAs (Decidable (_ ∨ _))
def step1 (M : Mach) (i : I) (s : St) : Step :=
  match i.op with
  | 0 => .on { s with stack := i.n :: s.stack }
  | 1 => if (number (look M s.set i.name)).2 = 0 then .on { s with stack := (number (look M s.set i.name)).1 :: s.stack } else .err (number (look M s.set i.name)).2 i.pos
  | 2 => match s.stack with
    | x :: r => .on { s with set := mset i.name (text x) s.set }
    | [] => .stuck
  | 3 => match s.stack with
    | x :: r => .on { s with stack := M.one i.by_ x :: r }
    | [] => .stuck
  | 4 => match s.stack with
    | y :: x :: r => if y = 0 ∧ divides i.by_ then .err 12 i.pos else .on { s with stack := M.two i.by_ x y :: r }
    | _ => .stuck
  | 5 => match s.stack with
    | x :: r => .on { s with stack := tr (x != 0) :: r }
    | [] => .stuck
  | 7 => .on { s with at_ := i.dest }
  | 8 => match s.stack with
    | x :: r => .on { s with at_ := if x = 0 then i.dest else s.at_, stack := r }
    | [] => .stuck
  | _ => .stuck
def exec (M : Mach) (L : List I) : Nat → St → Option Out
  | 0, _ => none
  | f + 1, s => match L[s.at_]? with
    | none => match s.stack with
      | x :: _ => some (.val x s.set s.steps)
      | [] => none
    | some i => match step1 M i { s with at_ := s.at_ + 1, steps := s.steps + 1 } with
      | .on s' => exec M L f s'
      | .err c p => some (.err c p (s.steps + 1))
      | .stuck => none

inductive Val where
  | ok (x : Int) (set : Vs)
  | err (code pos : Nat)
def Val.bind (r : Val) (f : Int → Vs → Val) : Val :=
  match r with
  | .ok x s => f x s
  | .err c p => .err c p
def num1 (M : Mach) (set : Vs) (x : Bs) (pos : Nat) : Val := if (number (look M set x)).2 = 0 then .ok (number (look M set x)).1 set else .err (number (look M set x)).2 pos
def two1 (M : Mach) (op : Bs) (pos : Nat) (x y : Int) (s : Vs) : Val := if y = 0 ∧ divides op then .err 12 pos else .ok (M.two op x y) s
/-- What an expression comes to. -/
def ev (M : Mach) : Ex → Vs → Val
  | .num n _, s => .ok n s
  | .name x pos, s => num1 M s x pos
  | .un op _ e, s => (ev M e s).bind fun x s => .ok (M.one op x) s
  | .bin op pos a b, s =>
    if op = [38, 38] then (ev M a s).bind fun x s => if x = 0 then .ok 0 s else (ev M b s).bind fun y s => .ok (tr (y != 0)) s
    else if op = [124, 124] then (ev M a s).bind fun x s => if x = 0 then (ev M b s).bind fun y s => .ok (tr (y != 0)) s else .ok 1 s
    else (ev M a s).bind fun x s => (ev M b s).bind fun y s => two1 M op pos x y s
  | .tern _ c a b, s => (ev M c s).bind fun x s => if x = 0 then ev M b s else ev M a s
  | .asg op x pos apos e, s =>
    if op = [61] then (ev M e s).bind fun y s => .ok y (mset x (text y) s)
    else (num1 M s x pos).bind fun v s => (ev M e s).bind fun y s => (two1 M op.dropLast apos v y s).bind fun z s => .ok z (mset x (text z) s)

/-- From s the code comes to the place e with the value on top of st; or to the error. -/
def Runs (M : Mach) (L : List I) (s : St) (st : List Int) (e : Nat) : Val → Prop
  | .ok x set => ∃ n, s.at_ + n ≤ e ∧ ∀ f, exec M L (f + n) s = exec M L f ⟨e, x :: st, set, s.steps + n⟩
  | .err c p => ∃ n, s.at_ + n < e ∧ ∀ f, exec M L (f + (n + 1)) s = some (.err c p (s.steps + (n + 1)))

theorem exec_on {M : Mach} {L : List I} {s s' : St} {i : I} (h : L[s.at_]? = some i) (hs : step1 M i { s with at_ := s.at_ + 1, steps := s.steps + 1 } = .on s') (f : Nat) : exec M L (f + 1) s = exec M L f s' := by
  rw [exec, h]; simp only [hs]
theorem exec_err {M : Mach} {L : List I} {s : St} {i : I} {c p : Nat} (h : L[s.at_]? = some i) (hs : step1 M i { s with at_ := s.at_ + 1, steps := s.steps + 1 } = .err c p) (f : Nat) : exec M L (f + 1) s = some (.err c p (s.steps + 1)) := by
  rw [exec, h]; simp only [hs]
/-- One step more ahead. -/
theorem Runs.ahead {M : Mach} {L : List I} {s s' : St} {i : I} {st : List Int} {e : Nat} {r : Val} (h : L[s.at_]? = some i) (hs : step1 M i { s with at_ := s.at_ + 1, steps := s.steps + 1 } = .on s') (hst : s'.steps = s.steps + 1) (hat : s.at_ + 1 ≤ s'.at_) (k : Runs M L s' st e r) : Runs M L s st e r := by
  cases r with
  | ok x set =>
    obtain ⟨n, hn, hr⟩ := k
    refine ⟨n + 1, by omega, fun f => ?_⟩
    rw [← Nat.add_assoc, exec_on h hs, hr f, hst, Nat.add_assoc, Nat.add_comm 1 n]
  | err c p =>
    obtain ⟨n, hn, hr⟩ := k
    refine ⟨n + 1, by omega, fun f => ?_⟩
    rw [← Nat.add_assoc, exec_on h hs, hr f, hst, Nat.add_assoc, Nat.add_comm 1 (n + 1)]
theorem Runs.fails {M : Mach} {L : List I} {s : St} {i : I} {st : List Int} {e c p : Nat} (h : L[s.at_]? = some i) (hs : step1 M i { s with at_ := s.at_ + 1, steps := s.steps + 1 } = .err c p) (he : s.at_ < e) : Runs M L s st e (.err c p) :=
  ⟨0, by omega, fun f => exec_err h hs f⟩
theorem Runs.here {M : Mach} {L : List I} (x : Int) (st : List Int) (set : Vs) (steps e : Nat) : Runs M L ⟨e, x :: st, set, steps⟩ st e (.ok x set) := ⟨0, by simp, fun f => rfl⟩
/-- First to m with x on top, then on. -/
theorem Runs.seq {M : Mach} {L : List I} {s : St} {st st' : List Int} {m e : Nat} {r : Val} {F : Int → Vs → Val} (h : Runs M L s st' m r) (hme : m ≤ e)
    (k : ∀ x set n, Runs M L ⟨m, x :: st', set, n⟩ st e (F x set)) : Runs M L s st e (r.bind F) := by
  cases r with
  | ok x set =>
    obtain ⟨n, hn, hr⟩ := h
    have k := k x set (s.steps + n)
    show Runs M L s st e (F x set)
    cases hF : F x set with
    | ok z set' =>
      rw [hF] at k
      obtain ⟨n', hn', hr'⟩ := k
      refine ⟨n' + n, by simp only at hn'; omega, fun f => ?_⟩
      rw [← Nat.add_assoc, hr, hr', Nat.add_assoc, Nat.add_comm n n']
    | err c p =>
      rw [hF] at k
      obtain ⟨n', hn', hr'⟩ := k
      refine ⟨n' + n, by simp only at hn'; omega, fun f => ?_⟩
      rw [show f + (n' + n + 1) = f + (n' + 1) + n by omega, hr, hr']
      congr 2; simp only; omega
  | err c p =>
    obtain ⟨n, hn, hr⟩ := h
    exact ⟨n, by omega, hr⟩
theorem get_patch_ne {l : List I} {a i : Nat} (h : i ≠ a) : (patch l a)[i]? = l[i]? := by
  unfold patch
  rw [List.getElem?_modify]
  cases l[i]? with
  | none => rfl
  | some x => simp [Ne.symm h]
theorem get_patch_eq {l : List I} {a : Nat} {x : I} (h : l[a]? = some x) : (patch l a)[a]? = some { x with dest := l.length } := by
  unfold patch
  rw [List.getElem?_modify, h]
  simp
theorem get_lt {l m : List I} {i : Nat} (h : i < l.length) : (l ++ m)[i]? = l[i]? := List.getElem?_append_left h
theorem get_new {l : List I} {x : I} {i : Nat} (h : i = l.length) : (l ++ [x])[i]? = some x := by subst h; exact List.getElem?_concat_length
theorem put_keep (ex : Ex) : ∀ (l : List I) (i : Nat), i < l.length → (put l ex)[i]? = l[i]? := by
  induction ex with
  | num n pos => intro l i h; rw [put, get_lt h]
  | name x pos => intro l i h; rw [put, get_lt h]
  | un op pos e ih => intro l i h; have := put_len e l; rw [put, get_lt (by omega), ih l i h]
  | bin op pos a b iha ihb =>
    intro l i h
    have h1 := put_len a l
    rw [put]
    split
    · have h2 := put_len b (put l a ++ [J 8 0])
      simp only [List.length_append, List.length_cons, List.length_nil] at h2
      rw [get_patch_ne (by simp only [List.length_append, List.length_cons, List.length_nil]; omega), get_lt (by simp only [patch_len, List.length_append, List.length_cons, List.length_nil]; omega), get_patch_ne (by omega), get_lt (by simp only [List.length_append, List.length_cons, List.length_nil]; omega), get_lt (by omega), ihb _ i (by simp only [List.length_append, List.length_cons, List.length_nil]; omega), get_lt (by omega), iha l i h]
    · split
      · have h2 := put_len b (patch (put l a ++ [J 8 0] ++ [J 0 1] ++ [J 7 0]) (put l a).length)
        simp only [patch_len, List.length_append, List.length_cons, List.length_nil] at h2
        rw [get_patch_ne (by simp only [List.length_append, List.length_cons, List.length_nil]; omega), get_lt (by omega), ihb _ i (by simp only [patch_len, List.length_append, List.length_cons, List.length_nil]; omega), get_patch_ne (by omega), get_lt (by simp only [List.length_append, List.length_cons, List.length_nil]; omega), get_lt (by simp only [List.length_append, List.length_cons, List.length_nil]; omega), get_lt (by omega), iha l i h]
      · have h2 := put_len b (put l a)
        rw [get_lt (by omega), ihb _ i (by omega), iha l i h]
  | tern pos c a b ihc iha ihb =>
    intro l i h
    have h1 := put_len c l
    have h2 := put_len a (put l c ++ [J 8 0])
    simp only [List.length_append, List.length_cons, List.length_nil] at h2
    rw [put, get_patch_ne (by omega), ihb _ i (by simp only [patch_len, List.length_append, List.length_cons, List.length_nil]; omega), get_patch_ne (by omega), get_lt (by omega), iha _ i (by simp only [List.length_append, List.length_cons, List.length_nil]; omega), get_lt (by omega), ihc l i h]
  | asg op x pos apos e ih =>
    intro l i h
    rw [put]
    split
    · have := put_len e l; rw [get_lt (by omega), ih l i h]
    · have := put_len e (l ++ [⟨1, 0, x, [], pos, 0⟩])
      simp only [List.length_append, List.length_cons, List.length_nil] at this
      rw [get_lt (by simp only [List.length_append, List.length_cons, List.length_nil]; omega), get_lt (by omega), ih _ i (by simp only [List.length_append, List.length_cons, List.length_nil]; omega), get_lt (by omega)]
end Go.Proofs.YtjllmamblkejjaaGreatDoor
end

/- scan.Base to the base 10, scan.Text: a number in decimal. No conditions. -/
section
set_option linter.unusedVariables false
set_option linter.unusedSimpArgs false
namespace Go.Proofs.YtjllmamblkejjaaGreatDoor
open Go.RowKit Go.Proofs.YtjllmamblkejjaaGreatDoorW.PrintWords Go.Proofs.YtjllmamblkejjaaGreatDoorW.PrintLast Go.Proofs.YtjllmamblkejjaaGreatDoorW.PrintMore
open PQA Sp

def bufOf (d : Bs) : Array Value := (List.replicate (64 - d.length) (Value.int .u8 0) ++ d.map fun c => Value.int .u8 (c.toNat : Int)).toArray
theorem buf0 : bufOf [] = #[.int .u8 0, .int .u8 0, .int .u8 0, .int .u8 0, .int .u8 0, .int .u8 0, .int .u8 0, .int .u8 0, .int .u8 0, .int .u8 0, .int .u8 0, .int .u8 0, .int .u8 0, .int .u8 0, .int .u8 0, .int .u8 0, .int .u8 0, .int .u8 0, .int .u8 0, .int .u8 0, .int .u8 0, .int .u8 0, .int .u8 0, .int .u8 0, .int .u8 0, .int .u8 0, .int .u8 0, .int .u8 0, .int .u8 0, .int .u8 0, .int .u8 0, .int .u8 0, .int .u8 0, .int .u8 0, .int .u8 0, .int .u8 0, .int .u8 0, .int .u8 0, .int .u8 0, .int .u8 0, .int .u8 0, .int .u8 0, .int .u8 0, .int .u8 0, .int .u8 0, .int .u8 0, .int .u8 0, .int .u8 0, .int .u8 0, .int .u8 0, .int .u8 0, .int .u8 0, .int .u8 0, .int .u8 0, .int .u8 0, .int .u8 0, .int .u8 0, .int .u8 0, .int .u8 0, .int .u8 0, .int .u8 0, .int .u8 0, .int .u8 0, .int .u8 0] := rfl
theorem buf_size (d : Bs) (h : d.length ≤ 64) : (bufOf d).size = 64 := by simp [bufOf]; omega
theorem buf_get (d : Bs) (h : d.length < 64) : (bufOf d)[64 - d.length - 1]? = some (.int .u8 0) := by
  unfold bufOf
  rw [List.getElem?_toArray, List.getElem?_append_left (by simp; omega), List.getElem?_replicate_of_lt (by omega)]
theorem buf_set (d : Bs) (c : UInt8) (h : d.length < 64) : (bufOf d).setIfInBounds (64 - d.length - 1) (.int .u8 (c.toNat : Int)) = bufOf (c :: d) := by
  unfold bufOf
  rw [List.setIfInBounds_toArray]
  congr 1
  rw [List.set_append_left _ _ (by simp; omega)]
  have h1 : List.replicate (64 - d.length) (Value.int .u8 0) = List.replicate (64 - d.length - 1) (Value.int .u8 0) ++ [Value.int .u8 0] := by
    rw [← List.replicate_succ']; congr 1; omega
  rw [h1, List.set_append_right _ _ (by simp)]
  simp only [List.length_replicate, Nat.sub_self, List.set_cons_zero, List.length_cons, List.map_cons, List.append_assoc, List.cons_append, List.nil_append]
  rw [Nat.sub_sub]
theorem buf_rb {wr : World} {g : Nat} (d : Bs) (h : d.length ≤ 64) (hb : wr.heap[g]? = some (.cells (bufOf d) 197 (0, 0))) : Rb wr (some ⟨g, 64 - d.length, none⟩) d := by
  refine Kd.C_of_reads (d := 0) (h1 := fun _ => rfl) ⟨ints_length d, by omega, fun _ => ⟨_, rfl, fun j hj => ?_⟩⟩
  have ha : (⟨g, 64 - d.length, none⟩ : Addr).add j = ⟨g, 64 - d.length + j, none⟩ := by simp [Addr.add]
  rw [ha]
  refine (blk_cell hb _).trans ?_
  unfold bufOf
  rw [List.getElem?_toArray, List.getElem?_append_right (by simp)]
  simp [ints, hj]
theorem arrLen : Tryz.prog.arrayLen 197 = 64 := by kernel_rfl
theorem arrNo : Tryz.prog.underlying 197 = some (.array (Tryz.prog.arrayLen 197) (Tryz.prog.elem 197)) := by kernel_rfl
theorem arrElem : Tryz.prog.elem 197 = 5 := by kernel_rfl
theorem szB (W : World) : (sizeOf 5).run Tryz.prog W = .ok 1 W := by kernel_rfl
theorem slice_arr (g : Nat) (k : Int) (n : Nat) (hk : k = (n : Int)) (h : n < 64) (W : World) : (Instr.sliceAt 197 (.pointer (some ⟨g, 0, none⟩)) (some (.int .i64 k)) none none).run Tryz.prog W = .ok (.slice (some ⟨g, n, none⟩) (64 - n) (64 - n)) W := by
  subst hk
  rw [run_sliceAt_array_l W 197 ⟨g, 0, none⟩ arrNo .i64 (n : Int) (by omega) (by rw [arrLen]; omega), arrElem, szB, arrLen]
  simp only [Result.andThen, slicedAt, Int.toNat_natCast]
  rw [if_neg (by omega)]
  simp [Addr.add]
  try omega
theorem dig_at (m : Nat) (h : m < 16) : ∀ (hb : m < ByteArray.size ⟨#[48, 49, 50, 51, 52, 53, 54, 55, 56, 57, 97, 98, 99, 100, 101, 102]⟩), m < 10 → (ByteArray.mk #[48, 49, 50, 51, 52, 53, 54, 55, 56, 57, 97, 98, 99, 100, 101, 102])[m] = 48 + UInt8.ofNat m := by
  intro hb h10
  match m, h10 with
  | 0, _ | 1, _ | 2, _ | 3, _ | 4, _ | 5, _ | 6, _ | 7, _ | 8, _ | 9, _ => rfl
structure BaseLoop (w : World) (n0 m : Nat) (d : Bs) (wr : World) : Prop where
  blk : wr.heap[w.heap.size]? = some (.cells (bufOf d) 197 (0, 0))
  below : Below w.heap.size w wr
  dec : decN n0 = decN m ++ d
  fits : m * 10 ^ d.length ≤ n0
  pos : d ≠ [] → 0 < m
set_option maxHeartbeats 4000000 in
set_option maxRecDepth 100000 in
theorem base_calls (n : Nat) (hn : n ≤ 18446744073709551615) (w : World) :
    Calls Tryz.prog 108 #[.int .u64 (n : Int), .int .i64 10, .bool false] w fun e w' => e = .returned (.string (mk (decN n))) ∧ Below w.heap.size w w' := by
  go_enter Tryz.func108, Tryz.ntmps108
  go_wp2_with fail
  have HL := Aside0.mk (BaseLoop.mk (w := w) (n0 := n) (m := n) (d := []) (wr := w.alloc (.cells (bufOf []) 197)) (heap_alloc_new w _) (below_alloc (Below.refl _ _) _) (by simp) (by simp) (fun h => absurd rfl h))
  rw [buf0] at HL
  go_loopg [0, 9] 64 (fun gk v0 v9 wr => ∃ (m : Nat) (d : Bs), v0 = .int .u64 (m : Int) ∧ v9 = .int .i64 ((64 - d.length : Nat) : Int) ∧ d.length ≤ 20 ∧ gk = 64 - d.length ∧ Aside0 (BaseLoop w n m d wr))
  case atStart => exact ⟨n, [], rfl, rfl, by simp, rfl, HL⟩
  case round =>
    obtain ⟨m, d, rfl, rfl, hd, hgk, HB⟩ := hrel
    clear HL
    have hblk := HB.out.blk
    have hcell : wr.cell? ⟨w.heap.size, 64 - d.length - 1, none⟩ = some (.int .u8 0) := (blk_cell hblk _).trans (buf_get d (by omega))
    have hfz := blk_frozen hblk (64 - d.length - 1)
    have hm : (m : Int) ≤ 18446744073709551615 := by
      have h1 := HB.out.fits
      have h2 : m ≤ m * 10 ^ d.length := Nat.le_mul_of_pos_right _ (Nat.pow_pos (by omega))
      omega
    clear hblk
    have hlt := Nat.mod_lt m (show 0 < 10 by omega)
    have HN := Aside0.mk hm
    have HD := Aside0.mk (dig_at (m % 10) (by omega) (by show m % 10 < 16; omega) hlt)
    have hW : ∀ v : UInt8, v = 48 + UInt8.ofNat (m % 10) → (wr.setCell ⟨w.heap.size, 64 - d.length - 1, none⟩ (.int .u8 (v.toNat : Int))).heap[w.heap.size]? = some (.cells (bufOf ((48 + UInt8.ofNat (m % 10)) :: d)) 197 (0, 0)) := by
      rintro v rfl
      rw [← buf_set d _ (by omega)]
      exact blk_set HB.out.blk _ _
    have hbd : m % 10 < ByteArray.size ⟨#[48, 49, 50, 51, 52, 53, 54, 55, 56, 57, 97, 98, 99, 100, 101, 102]⟩ := by show m % 10 < 16; omega
    have hblk2 := hW _ (HD.out)
    have hbel2 := below_put HB.out.below w.heap.size (64 - d.length - 1) (Nat.le_refl w.heap.size) (.int .u8 (((ByteArray.mk #[48, 49, 50, 51, 52, 53, 54, 55, 56, 57, 97, 98, 99, 100, 101, 102])[m % 10]'hbd).toNat : Int))
    have HW := Aside0.mk (And.intro hblk2 hbel2)
    by_cases h10 : m < 10
    · have hz : ((m : Int) / 10 == 0) = true := by rw [beq_iff_eq]; omega
      have hsl := slice_arr w.heap.size (((64 - d.length : Nat) : Int) - 1) (64 - d.length - 1) (by omega) (by omega)
      have hk2 : 64 - (64 - d.length - 1) = ((48 + UInt8.ofNat (m % 10)) :: d).length := by simp only [List.length_cons]; omega
      have hcv := string_of _ (some ⟨w.heap.size, 64 - ((48 + UInt8.ofNat (m % 10)) :: d).length, none⟩) (64 - (64 - d.length - 1)) ((48 + UInt8.ofNat (m % 10)) :: d) (buf_rb _ (by simp only [List.length_cons]; omega) hblk2)
      rw [← hk2, show 64 - (64 - (64 - d.length - 1)) = 64 - d.length - 1 by omega] at hcv
      clear hW hblk2 hbel2 hk2
      go_wp2_with fail
      go_ret
      have hfin : decN n = (48 + UInt8.ofNat (m % 10)) :: d := by
        rw [HB.out.dec, decN, if_pos h10, show m % 10 = m by omega]; rfl
      refine ⟨?_, HW.out.2⟩
      rw [hfin]
      rfl
    · have hz : ((m : Int) / 10 == 0) = false := by rw [beq_eq_false_iff_ne]; omega
      clear hW hblk2 hbel2
      go_wp2_with fail
      go_roundg (64 - (d.length + 1))
      case measure => omega
      case rel =>
        have h20 : d.length + 1 ≤ 20 := by
          have h1 := HB.out.fits
          have h2 : 10 * 10 ^ d.length ≤ m * 10 ^ d.length := Nat.mul_le_mul_right _ (by omega)
          have h3 : 10 ^ (d.length + 1) ≤ 18446744073709551615 := by rw [Nat.pow_succ]; omega
          have h4 : (10 : Nat) ^ (d.length + 1) < 10 ^ 20 := by omega
          have := (Nat.pow_lt_pow_iff_right (by omega)).1 h4
          omega
        refine ⟨m / 10, (48 + UInt8.ofNat (m % 10)) :: d, by first | rfl | go_num, ?_, by simp only [List.length_cons]; omega, rfl, ⟨HW.out.1, HW.out.2, ?_, ?_, ?_⟩⟩
        · rw [show 64 - ((48 + UInt8.ofNat (m % 10)) :: d).length = 64 - d.length - 1 by simp only [List.length_cons]; omega]
          congr 1; omega
        · rw [HB.out.dec, decN, if_neg h10]
          simp
        · rw [List.length_cons, Nat.pow_succ]
          have h1 := HB.out.fits
          have h2 : m / 10 * 10 ≤ m := Nat.div_mul_le_self m 10
          calc m / 10 * (10 ^ d.length * 10) = m / 10 * 10 * 10 ^ d.length := by rw [Nat.mul_comm (10 ^ d.length) 10, Nat.mul_assoc]
            _ ≤ m * 10 ^ d.length := Nat.mul_le_mul_right _ h2
            _ ≤ n := h1
        · intro _; omega
theorem base_int (x : Int) (k : Nat) (hx : x = (k : Int)) (hk : k ≤ 18446744073709551615) (w : World) :
    Calls Tryz.prog 108 #[.int .u64 x, .int .i64 10, .bool false] w fun e w' => e = .returned (.string (mk (decN k))) ∧ Below w.heap.size w w' := by
  subst hx
  exact base_calls k hk w
theorem wrap_neg (n : Int) (h1 : -9223372036854775808 ≤ n) (h0 : n < 0) : IntKind.u64.wrap (-IntKind.u64.wrap n) = (n.natAbs : Int) := by
  simp [IntKind.wrap, IntKind.signed, IntKind.bits]
  omega
theorem decN_len (k : Nat) : ∀ n, n < 10 ^ (k + 1) → (decN n).length ≤ k + 1 := by
  induction k with
  | zero => intro n h; rw [decN, if_pos (by omega)]; simp
  | succ k ih =>
    intro n h
    rw [decN]
    split
    · simp
    · have := ih (n / 10) (by rw [Nat.pow_succ] at h; omega)
      simp; omega
theorem text_len (n : Int) (h1 : -9223372036854775808 ≤ n) (h2 : n ≤ 9223372036854775807) : (text n).length ≤ 21 := by
  have h := decN_len 19 n.natAbs (by omega)
  unfold text
  split
  · simp; omega
  · omega
set_option maxHeartbeats 4000000 in
theorem text_calls (n : Int) (h1 : -9223372036854775808 ≤ n) (h2 : n ≤ 9223372036854775807) (w : World) :
    Calls Tryz.prog 77 #[.int .i64 n] w fun e w' => e = .returned (.string (mk (text n))) ∧ Below w.heap.size w w' := by
  by_cases hn : n < 0
  · have HX := Aside0.mk (wrap_neg n h1 hn)
    have hd : decide (n < 0) = true := by simpa using hn
    have HT := Aside0.mk (show text n = 45 :: decN n.natAbs by unfold text; rw [if_pos hn])
    have hl : (mk (decN n.natAbs)).size ≤ 20 := by have := decN_len 19 n.natAbs (by omega); simpa [mk, ByteArray.size] using this
    go_enter Tryz.func77, Tryz.ntmps77
    go_wp2_with fail
    with_reducible refine (base_int _ n.natAbs HX.out (by omega) _).mono ?_
    rintro e w' ⟨rfl, hb⟩
    go_wp2_with fail
    go_ret
    refine ⟨?_, hb⟩
    have hcat : (ByteArray.mk #[45] ++ mk (decN n.natAbs)) = mk (45 :: decN n.natAbs) := by
      apply ByteArray.ext; simp [mk]
    rw [HT.out, ← hcat]
    rfl
  · have hd : decide (n < 0) = false := by simpa using hn
    have HT := Aside0.mk (show text n = decN n.natAbs by unfold text; rw [if_neg hn])
    go_enter Tryz.func77, Tryz.ntmps77
    go_wp2_with fail
    with_reducible refine (base_int _ n.natAbs (by omega) (by omega) _).mono ?_
    rintro e w' ⟨rfl, hb⟩
    go_wp2_with fail
    go_ret
    exact ⟨by rw [HT.out]; rfl, hb⟩
end Go.Proofs.YtjllmamblkejjaaGreatDoor
end

/- acode.number: the number of a value. No conditions. -/
section
set_option linter.unusedVariables false
set_option linter.unusedSimpArgs false
namespace Go.Proofs.YtjllmamblkejjaaGreatDoor
open Go.RowKit Go.Proofs.YtjllmamblkejjaaGreatDoorW.PrintWords Go.Proofs.YtjllmamblkejjaaGreatDoorW.PrintLast Go.Proofs.YtjllmamblkejjaaGreatDoorW.PrintMore
open PQA Sp

set_option maxHeartbeats 4000000 in
theorem white_calls (c : UInt8) (w : World) : Calls Tryz.prog 132 #[.int .u8 (c.toNat : Int)] w fun e w' => e = .returned (.bool (white c)) ∧ w = w' := by
  have h1 := byte_eq c 32
  have h2 := byte_eq c 9
  have h3 := byte_eq c 10
  have hw : white c = (decide (c = 32) || decide (c = 9) || decide (c = 10)) := by
    unfold white; rfl
  rw [hw]
  have e1 : ((32 : UInt8).toNat : Int) = 32 := by decide
  have e2 : ((9 : UInt8).toNat : Int) = 9 := by decide
  have e3 : ((10 : UInt8).toNat : Int) = 10 := by decide
  rw [e1] at h1
  rw [e2] at h2
  rw [e3] at h3
  clear e1 e2 e3 hw
  by_cases a1 : c = 32
  · subst a1
    go_enter Tryz.func132, Tryz.ntmps132
    go_wp2_with fail
    go_ret
    exact ⟨by rfl, rfl⟩
  · rw [decide_eq_false a1] at h1 ⊢
    by_cases a2 : c = 9
    · subst a2
      go_enter Tryz.func132, Tryz.ntmps132
      go_wp2_with fail
      go_ret
      exact ⟨by rfl, rfl⟩
    · rw [decide_eq_false a2] at h2 ⊢
      generalize hd : decide (c = 10) = d at *
      clear hd a1 a2
      go_enter Tryz.func132, Tryz.ntmps132
      go_wp2_with fail
      go_ret
      exact ⟨by simp, rfl⟩
theorem white_at (x : Int) (c : UInt8) (hx : x = (c.toNat : Int)) (w : World) : Calls Tryz.prog 132 #[.int .u8 x] w fun e w' => e = .returned (.bool (white c)) ∧ w = w' := by
  subst hx
  exact white_calls c w
theorem mk_get (l : Bs) (i : Nat) (h : i < (mk l).size) (h' : i < l.length) : (mk l)[i]'h = l[i] := by
  simp [mk, ByteArray.getElem_eq_getElem_data]
theorem mk_hd (c : UInt8) (r : Bs) (h : 0 < (mk (c :: r)).size) : (mk (c :: r))[0]'h = c := mk_get (c :: r) 0 h (Nat.succ_pos _)
theorem mk_ext {a b : ByteArray} (h : a.data.toList = b.data.toList) : a = b := by
  apply ByteArray.ext
  exact Array.toList_inj.1 h
theorem mk_tail (c : UInt8) (r : Bs) (n : Nat) (hn : r.length + 1 ≤ n) : (mk (c :: r)).extract 1 n = mk r := by
  apply mk_ext
  simp [mk, ByteArray.data_extract]
  rw [List.take_of_length_le (by omega)]
theorem mk_init (l : Bs) (n : Nat) (hn : n + 1 = l.length) : (mk l).extract 0 n = mk l.dropLast := by
  apply mk_ext
  simp [mk, ByteArray.data_extract]
  rw [List.dropLast_eq_take]
  congr 1; omega
theorem mk_inj {a b : Bs} (h : mk a = mk b) : a = b := by
  have := congrArg ByteArray.toList h
  rwa [mk_toList, mk_toList] at this
theorem mk_emp (l : Bs) : (mk l).toList.isEmpty = l.isEmpty := by rw [mk_toList]
theorem trimL_on {c : UInt8} {r : Bs} (h : white c = true) : trimL (c :: r) = trimL r := by unfold trimL; rw [List.dropWhile_cons, if_pos h]
theorem trimL_off {c : UInt8} {r : Bs} (h : white c = false) : trimL (c :: r) = c :: r := by unfold trimL; rw [List.dropWhile_cons, if_neg (by simp [h])]
theorem trimR_on {l : Bs} {c : UInt8} (h : white c = true) : trimR (l ++ [c]) = trimR l := by
  unfold trimR
  rw [List.reverse_append, List.reverse_singleton, List.singleton_append, List.dropWhile_cons, if_pos h]
theorem trimR_off {l : Bs} {c : UInt8} (h : white c = false) : trimR (l ++ [c]) = l ++ [c] := by
  unfold trimR
  rw [List.reverse_append, List.reverse_singleton, List.singleton_append, List.dropWhile_cons, if_neg (by simp [h])]
  simp
theorem const_str (U : Bs) (n m : Nat) (o : Bool) (h : const U = (n, m, o)) (W : World) (hl : U.length ≤ 140737488355328) (sz : Nat) (hs : sz = U.length) (q : Nat) (hq : q = W.heap.size) :
    Calls Tryz.prog 95 #[.slice (some ⟨q, 0, none⟩) sz (grownCap W sz 0 5)] (Lib.bytesWorld W 5 (mk U)) fun e w' =>
      e = .returned (.tuple #[.int .i64 (n : Int), .int .i64 (m : Int), .bool o]) ∧ Drawn0 (Lib.bytesWorld W 5 (mk U)) w' := by
  subst hs hq
  have hr := bytes_reads W 5 (mk U) (by rw [mk_size]; omega)
  have hb : bytesOf (mk U) = ints U := by simp [bytesOf, ints, mk]
  rw [hb] at hr
  rw [mk_size] at hr
  exact const_calls U n m o h _ _ _ (Kd.C_of_reads (d := 0) (h1 := fun _ => rfl) hr) (grownCap_ge _ _ _ _) (by omega)
theorem const_below {w W w1 : World} (U : Bs) (h : Below w.heap.size w W) (hd : Drawn0 (Lib.bytesWorld W 5 (mk U)) w1) : Below w.heap.size w w1 := by
  obtain ⟨n, rfl⟩ := hd
  exact pw_below_drewN (bytes_below h h.size _ _) n
/-- Where the first loop stands, and the second. -/
structure TrimA (l0 l : Bs) : Prop where
  same : trimL l = trimL l0
  le : l.length ≤ l0.length
structure TrimB (l0 l : Bs) : Prop where
  same : trimR l = trimR (trimL l0)
  le : l.length ≤ l0.length
theorem trimL_le (l : Bs) : (trimL l).length ≤ l.length := List.IsSuffix.length_le (List.dropWhile_suffix _)
theorem trimR_le (l : Bs) : (trimR l).length ≤ l.length := by
  unfold trimR
  rw [List.length_reverse]
  have := List.IsSuffix.length_le (List.dropWhile_suffix (l := l.reverse) white)
  simpa using this
set_option maxHeartbeats 4000000 in
set_option maxRecDepth 100000 in
theorem number_calls (l : Bs) (hl : l.length ≤ 140737488355328) (w : World) :
    Calls Tryz.prog 107 #[.string (mk l)] w fun e w' => e = .returned (.tuple #[.int .i64 (number l).1, .int .i64 ((number l).2 : Int)]) ∧ Below w.heap.size w w' := by
  by_cases hn : l = []
  · subst hn
    have he : (mk []).toList.isEmpty = true := mk_emp []
    go_enter Tryz.func107, Tryz.ntmps107
    go_wp2_with fail
    go_ret2
    exact ⟨rfl, Below.refl _ _⟩
  · have he : (mk l).toList.isEmpty = false := by rw [mk_emp]; simpa using hn
    have HA := Aside0.mk (TrimA.mk (l0 := l) (l := l) rfl (Nat.le_refl _))
    have HNN := Aside0.mk hn
    clear hn
    go_enter Tryz.func107, Tryz.ntmps107
    go_upto_block 0 with fail
    go_cut [0] from 11 to 20 (fun v0 wx => v0 = .string (mk (trimL l)) ∧ wx = w)
    case first =>
      go_wp2_with fail
      go_loop [0] (fun v => ∃ l' : Bs, v = .string (mk l') ∧ Aside0 (TrimA l l')) (fun v => match v with | .string s => s.size | _ => 0)
      case atStart => exact ⟨l, rfl, HA⟩
      case round =>
        obtain ⟨l', rfl, HB⟩ := hrel
        clear HA he
        cases l' with
        | nil =>
          have he : (mk []).toList.isEmpty = true := mk_emp []
          have HT := Aside0.mk HB.out.same
          go_wp2_with fail
          go_meet
          exact ⟨by rw [← HT.out]; rfl, rfl⟩
        | cons c r =>
          have he : (mk (c :: r)).toList.isEmpty = false := mk_emp (c :: r)
          have hsz : 0 < (mk (c :: r)).size := by rw [mk_size]; exact Nat.succ_pos _
          have hsz2 : (mk (c :: r)).size ≤ 140737488355328 := by rw [mk_size]; have := HB.out.le; omega
          have HG := Aside0.mk (mk_hd c r (by rw [mk_size]; exact Nat.succ_pos _))
          by_cases hw : white c = true
          · go_wp2_with fail
            with_reducible refine (white_at _ c (by rw [HG.out]) _).mono ?_
            rintro e w' ⟨rfl, rfl⟩
            go_wp2_with fail
            go_round
            case rel => exact ⟨r, by rw [mk_tail c r _ (by rw [mk_size]; simp)], ⟨⟨(trimL_on hw).symm.trans HB.out.same, by have := HB.out.le; simp at this; omega⟩⟩⟩
            case measure => simp only [mk_tail c r _ (show r.length + 1 ≤ (mk (c :: r)).size by rw [mk_size]; simp)]; simp [mk_size]
          · have hw : white c = false := by simpa using hw
            have HT := Aside0.mk ((trimL_off (r := r) hw).symm.trans HB.out.same)
            go_wp2_with fail
            with_reducible refine (white_at _ c (by rw [HG.out]) _).mono ?_
            rintro e w' ⟨rfl, rfl⟩
            go_wp2_with fail
            go_meet
            exact ⟨by rw [← HT.out], rfl⟩
    case rest =>
      obtain ⟨rfl, rfl⟩ := hcut
      have HA2 := Aside0.mk (TrimB.mk (l0 := l) (l := trimL l) rfl (trimL_le l))
      have HNL := Aside0.mk (rfl : trimL l = trimL l)
      go_upto_block 2 with fail
      go_cut [0] from 21 to 36 (fun v0 wx => v0 = .string (mk (trimR (trimL l))) ∧ wx = wc)
      case first =>
        go_wp2_with fail
        go_loop [0] (fun v => ∃ l' : Bs, v = .string (mk l') ∧ Aside0 (TrimB l l')) (fun v => match v with | .string s => s.size | _ => 0)
        case atStart => exact ⟨trimL l, rfl, HA2⟩
        case round =>
          obtain ⟨l', rfl, HB⟩ := hrel
          clear HA2
          rcases List.eq_nil_or_concat l' with rfl | ⟨r, c, hcc⟩
          · have he : (mk []).toList.isEmpty = true := mk_emp []
            have HT := Aside0.mk HB.out.same
            go_wp2_with fail
            go_meet
            exact ⟨by rw [← HT.out]; rfl, rfl⟩
          · rw [List.concat_eq_append] at hcc
            subst hcc
            have hr0 : (r ++ [c]).isEmpty = false := by cases r <;> rfl
            have he : (mk (r ++ [c])).toList.isEmpty = false := (mk_emp _).trans hr0
            have hsz : (mk (r ++ [c])).size = r.length + 1 := by rw [mk_size]; simp
            have hsz2 : r.length ≤ 140737488355328 := by have := HB.out.le; simp at this; omega
            have HG := Aside0.mk (mk_get (r ++ [c]) r.length (by omega) (by simp))
            clear hr0
            by_cases hw : white c = true
            · go_wp2_with fail
              with_reducible refine (white_at _ c (by rw [HG.out]; simp) _).mono ?_
              rintro e w' ⟨rfl, rfl⟩
              go_wp2_with fail
              go_round
              case rel => exact ⟨r, by rw [mk_init (r ++ [c]) _ (by simp)]; simp, ⟨⟨(trimR_on hw).symm.trans HB.out.same, by have := HB.out.le; simp at this; omega⟩⟩⟩
              case measure => simp only [mk_init (r ++ [c]) r.length (by simp)]; simp [mk_size]
            · have hw : white c = false := by simpa using hw
              have HT := Aside0.mk ((trimR_off (l := r) hw).symm.trans HB.out.same)
              go_wp2_with fail
              with_reducible refine (white_at _ c (by rw [HG.out]; simp) _).mono ?_
              rintro e w' ⟨rfl, rfl⟩
              go_wp2_with fail
              go_meet
              exact ⟨by rw [← HT.out], rfl⟩
      case rest =>
        obtain ⟨rfl, rfl⟩ := hcut
        have hF := Aside0.mk (show number l = numOf (unsign (trimR (trimL l))) (below0 (trimR (trimL l))) by unfold number; rw [if_neg HNN.out])
        have ht : (trimR (trimL l)).length ≤ 140737488355328 := by have := trimR_le (trimL l); have := trimL_le l; omega
        clear HA HA2 HNN HNL he hl
        generalize trimR (trimL l) = t at *
        --TAIL--
        match t with
        | [] =>
          have he : (mk []).toList.isEmpty = true := mk_emp []
          have hU : unsign [] = [] := rfl
          have hB : below0 [] = false := rfl
          rw [hU, hB] at hF
          clear hU hB
          have hcv := fun W => Lib.run_convert_string_bytes (P := Tryz.prog) W 9 22 5 (mk ([] : Bs)) Tryz.underlying9 Tryz.underlying22 Tryz.underlying5
          obtain ⟨n, hn⟩ : ∃ n, n = (const ([] : Bs)).1 := ⟨_, rfl⟩
          obtain ⟨k, hk⟩ : ∃ k, k = (const ([] : Bs)).2.1 := ⟨_, rfl⟩
          obtain ⟨o, ho⟩ : ∃ o, o = (const ([] : Bs)).2.2 := ⟨_, rfl⟩
          have HC := Aside0.mk (show const ([] : Bs) = (n, k, o) by rw [hn, hk, ho])
          have HM := Aside0.mk (show n ≤ maxI by rw [hn]; exact const_max _)
          have HNM := Aside0.mk (show numOf ([] : Bs) false = if k = 0 ∨ k < (([] : Bs)).length then (0, 13) else if o = true ∧ false = true ∧ ([] : Bs) = maxText then (-9223372036854775808, 0) else if o = true then (0, 6) else if false = true then (-(n : Int), 0) else ((n : Int), 0) by unfold numOf; rw [← hn, ← hk, ← ho])
          obtain rfl : k = 0 := hk
          obtain rfl : n = 0 := hn
          obtain rfl : o = false := ho
          skip
          have hsz : (mk ([] : Bs)).size = (([] : Bs)).length := mk_size _
          go_wp2_with fail
          with_reducible refine (const_str ([] : Bs) _ _ _ HC.out _ (by first | omega | (simp only [List.length_cons] at ht; omega) | simp) _ (by first | rfl | simp) _ (by with_unfolding_all rfl)).mono ?_
          rintro e w1 ⟨rfl, hD⟩
          have HB1 := Aside0.mk (const_below (w := wc) ([] : Bs) (by repeat (first | (with_reducible exact Below.refl _ _) | (with_reducible apply below_drew1) | (with_reducible apply pw_below_drewN))) hD)
          clear hD hcv
          have hfin : number l = (0, 13) := by rw [hF.out, HNM.out]; simp
          have HFIN := Aside0.mk hfin
          clear hfin
          go_wp2_with fail
          go_ret2
          exact ⟨by rw [HFIN.out]; rfl, HB1.out⟩
        | c :: r =>
          have he : (mk (c :: r)).toList.isEmpty = false := mk_emp (c :: r)
          have hsz0 : 0 < (mk (c :: r)).size := by rw [mk_size]; exact Nat.succ_pos _
          have hsz1 : (mk (c :: r)).size ≤ 140737488355328 := by rw [mk_size]; exact ht
          have hg := mk_hd c r hsz0
          have h43 := byte_eq c 43
          have h45 := byte_eq c 45
          rw [show ((43 : UInt8).toNat : Int) = 43 by decide] at h43
          rw [show ((45 : UInt8).toNat : Int) = 45 by decide] at h45
          by_cases e1 : c = 43
          · subst e1
            have hU : unsign (43 :: r) = r := rfl
            have hB : below0 (43 :: r) = false := rfl
            rw [hU, hB] at hF
            clear hU hB
            have hx1 : (mk (43 :: r)).extract 1 (mk (43 :: r)).size = mk r := mk_tail 43 r _ (by rw [mk_size]; simp)
            clear h43 h45
            have hrl : r.length ≤ 140737488355328 := by rw [List.length_cons] at ht; omega
            go_wp2_with fail
            go_quiet (fail)
            clear hx1 hg he hsz0 hsz1
            have hcv := fun W => Lib.run_convert_string_bytes (P := Tryz.prog) W 9 22 5 (mk r) Tryz.underlying9 Tryz.underlying22 Tryz.underlying5
            obtain ⟨n, hn⟩ : ∃ n, n = (const r).1 := ⟨_, rfl⟩
            obtain ⟨k, hk⟩ : ∃ k, k = (const r).2.1 := ⟨_, rfl⟩
            obtain ⟨o, ho⟩ : ∃ o, o = (const r).2.2 := ⟨_, rfl⟩
            have HC := Aside0.mk (show const r = (n, k, o) by rw [hn, hk, ho])
            have HM := Aside0.mk (show n ≤ maxI by rw [hn]; exact const_max _)
            have HNM := Aside0.mk (show numOf r false = if k = 0 ∨ k < (r).length then (0, 13) else if o = true ∧ false = true ∧ r = maxText then (-9223372036854775808, 0) else if o = true then (0, 6) else if false = true then (-(n : Int), 0) else ((n : Int), 0) by unfold numOf; rw [← hn, ← hk, ← ho])
            clear hn hk ho
            have hsz : (mk r).size = (r).length := mk_size _
            go_wp2_with fail
            with_reducible refine (const_str r _ _ _ HC.out _ (by first | omega | (simp only [List.length_cons] at ht; omega) | simp) _ (by first | rfl | simp) _ (by with_unfolding_all rfl)).mono ?_
            rintro e w1 ⟨rfl, hD⟩
            have HB1 := Aside0.mk (const_below (w := wc) r (by repeat (first | (with_reducible exact Below.refl _ _) | (with_reducible apply below_drew1) | (with_reducible apply pw_below_drewN))) hD)
            clear hD hcv
            by_cases hA : k = 0
            · subst hA
              have hfin : number l = (0, 13) := by rw [hF.out, HNM.out]; simp
              have HFIN := Aside0.mk hfin
              clear hfin
              go_wp2_with fail
              go_ret2
              exact ⟨by rw [HFIN.out]; rfl, HB1.out⟩
            have hkb : ((k : Int) == 0) = false := by rw [beq_eq_false_iff_ne]; omega
            by_cases hA2 : k < r.length
            · have hkl : decide ((k : Int) < (r.length : Int)) = true := by simp; omega
              have hkm : decide (k < r.length) = true := by simp; omega
              have hfin : number l = (0, 13) := by rw [hF.out, HNM.out]; rw [if_pos (Or.inr hA2)]
              have HFIN := Aside0.mk hfin
              clear hfin
              go_wp2_with fail
              go_ret2
              exact ⟨by rw [HFIN.out]; rfl, HB1.out⟩
            have hkl : decide ((k : Int) < (r.length : Int)) = false := by simp; omega
            have hkm : decide (k < r.length) = false := by simp; omega
            have HN1 := Aside0.mk (show ¬ (k = 0 ∨ k < (r).length) by rintro (h | h); exact hA h; exact hA2 (by first | exact h | simpa using h))
            clear hA hA2
            cases o with
            | false =>
              have hfin : number l = ((n : Int), 0) := by rw [hF.out, HNM.out]; rw [if_neg HN1.out]; simp
              have HFIN := Aside0.mk hfin
              clear hfin
              go_wp2_with fail
              go_ret2
              exact ⟨by rw [HFIN.out]; rfl, HB1.out⟩
            | true =>
              have hfin : number l = (0, 6) := by rw [hF.out, HNM.out]; rw [if_neg HN1.out]; simp
              have HFIN := Aside0.mk hfin
              clear hfin
              go_wp2_with fail
              go_ret2
              exact ⟨by rw [HFIN.out]; rfl, HB1.out⟩
          rw [decide_eq_false e1] at h43
          by_cases e2 : c = 45
          · have e1 := e2
            subst e1
            have hU : unsign (45 :: r) = r := rfl
            have hB : below0 (45 :: r) = true := rfl
            rw [hU, hB] at hF
            clear hU hB
            have hx1 : (mk (45 :: r)).extract 1 (mk (45 :: r)).size = mk r := mk_tail 45 r _ (by rw [mk_size]; simp)
            clear h43 h45
            have hrl : r.length ≤ 140737488355328 := by rw [List.length_cons] at ht; omega
            go_wp2_with fail
            go_quiet (fail)
            clear hx1 hg he hsz0 hsz1
            have hcv := fun W => Lib.run_convert_string_bytes (P := Tryz.prog) W 9 22 5 (mk r) Tryz.underlying9 Tryz.underlying22 Tryz.underlying5
            obtain ⟨n, hn⟩ : ∃ n, n = (const r).1 := ⟨_, rfl⟩
            obtain ⟨k, hk⟩ : ∃ k, k = (const r).2.1 := ⟨_, rfl⟩
            obtain ⟨o, ho⟩ : ∃ o, o = (const r).2.2 := ⟨_, rfl⟩
            have HC := Aside0.mk (show const r = (n, k, o) by rw [hn, hk, ho])
            have HM := Aside0.mk (show n ≤ maxI by rw [hn]; exact const_max _)
            have HNM := Aside0.mk (show numOf r true = if k = 0 ∨ k < (r).length then (0, 13) else if o = true ∧ true = true ∧ r = maxText then (-9223372036854775808, 0) else if o = true then (0, 6) else if true = true then (-(n : Int), 0) else ((n : Int), 0) by unfold numOf; rw [← hn, ← hk, ← ho])
            clear hn hk ho
            have hsz : (mk r).size = (r).length := mk_size _
            go_wp2_with fail
            with_reducible refine (const_str r _ _ _ HC.out _ (by first | omega | (simp only [List.length_cons] at ht; omega) | simp) _ (by first | rfl | simp) _ (by with_unfolding_all rfl)).mono ?_
            rintro e w1 ⟨rfl, hD⟩
            have HB1 := Aside0.mk (const_below (w := wc) r (by repeat (first | (with_reducible exact Below.refl _ _) | (with_reducible apply below_drew1) | (with_reducible apply pw_below_drewN))) hD)
            clear hD hcv
            by_cases hA : k = 0
            · subst hA
              have hfin : number l = (0, 13) := by rw [hF.out, HNM.out]; simp
              have HFIN := Aside0.mk hfin
              clear hfin
              go_wp2_with fail
              go_ret2
              exact ⟨by rw [HFIN.out]; rfl, HB1.out⟩
            have hkb : ((k : Int) == 0) = false := by rw [beq_eq_false_iff_ne]; omega
            by_cases hA2 : k < r.length
            · have hkl : decide ((k : Int) < (r.length : Int)) = true := by simp; omega
              have hkm : decide (k < r.length) = true := by simp; omega
              have hfin : number l = (0, 13) := by rw [hF.out, HNM.out]; rw [if_pos (Or.inr hA2)]
              have HFIN := Aside0.mk hfin
              clear hfin
              go_wp2_with fail
              go_ret2
              exact ⟨by rw [HFIN.out]; rfl, HB1.out⟩
            have hkl : decide ((k : Int) < (r.length : Int)) = false := by simp; omega
            have hkm : decide (k < r.length) = false := by simp; omega
            have HN1 := Aside0.mk (show ¬ (k = 0 ∨ k < (r).length) by rintro (h | h); exact hA h; exact hA2 (by first | exact h | simpa using h))
            clear hA hA2
            cases o with
            | false =>
              have hng : wrap64 (-(n : Int)) = -(n : Int) := by have := HM.out; unfold maxI at this; unfold wrap64; omega
              have HNG := Aside0.mk hng
              clear hng
              have hfin : number l = (-(n : Int), 0) := by rw [hF.out, HNM.out]; rw [if_neg HN1.out]; simp
              have HFIN := Aside0.mk hfin
              clear hfin
              go_wp2_with fail
              go_ret2
              exact ⟨by show Ending.returned (.tuple #[.int .i64 (wrap64 (-(n : Int))), .int .i64 0]) = _; rw [HNG.out, HFIN.out]; rfl, HB1.out⟩
            | true =>
              by_cases hx : r = maxText
              · have hxs : ((mk r).toList == [57, 50, 50, 51, 51, 55, 50, 48, 51, 54, 56, 53, 52, 55, 55, 53, 56, 48, 56]) = true := by rw [mk_toList, beq_iff_eq]; exact hx
                have HX := Aside0.mk hx
                clear hx
                have hfin : number l = (-9223372036854775808, 0) := by rw [hF.out, HNM.out]; rw [if_neg HN1.out, if_pos (by simp [HX.out])]
                have HFIN := Aside0.mk hfin
                clear hfin
                go_wp2_with fail
                go_ret2
                exact ⟨by rw [HFIN.out]; rfl, HB1.out⟩
              · have hxs : ((mk r).toList == [57, 50, 50, 51, 51, 55, 50, 48, 51, 54, 56, 53, 52, 55, 55, 53, 56, 48, 56]) = false := by rw [mk_toList, beq_eq_false_iff_ne]; exact hx
                have HX := Aside0.mk hx
                clear hx
                have hfin : number l = (0, 6) := by rw [hF.out, HNM.out]; rw [if_neg HN1.out, if_neg (fun h => HX.out h.2.2)]; simp
                have HFIN := Aside0.mk hfin
                clear hfin
                go_wp2_with fail
                go_ret2
                exact ⟨by rw [HFIN.out]; rfl, HB1.out⟩
          rw [decide_eq_false e2] at h45
          have hB : below0 (c :: r) = false := by unfold below0; simp [e2]
          have hU : unsign (c :: r) = c :: r := by unfold unsign signed; rw [if_neg (by simp [e1, e2])]
          rw [hU, hB] at hF
          clear hU hB e1 e2
          have hcv := fun W => Lib.run_convert_string_bytes (P := Tryz.prog) W 9 22 5 (mk (c :: r)) Tryz.underlying9 Tryz.underlying22 Tryz.underlying5
          obtain ⟨n, hn⟩ : ∃ n, n = (const (c :: r)).1 := ⟨_, rfl⟩
          obtain ⟨k, hk⟩ : ∃ k, k = (const (c :: r)).2.1 := ⟨_, rfl⟩
          obtain ⟨o, ho⟩ : ∃ o, o = (const (c :: r)).2.2 := ⟨_, rfl⟩
          have HC := Aside0.mk (show const (c :: r) = (n, k, o) by rw [hn, hk, ho])
          have HM := Aside0.mk (show n ≤ maxI by rw [hn]; exact const_max _)
          have HNM := Aside0.mk (show numOf (c :: r) false = if k = 0 ∨ k < ((c :: r)).length then (0, 13) else if o = true ∧ false = true ∧ (c :: r) = maxText then (-9223372036854775808, 0) else if o = true then (0, 6) else if false = true then (-(n : Int), 0) else ((n : Int), 0) by unfold numOf; rw [← hn, ← hk, ← ho])
          clear hn hk ho
          have hsz : (mk (c :: r)).size = ((c :: r)).length := mk_size _
          go_wp2_with fail
          with_reducible refine (const_str (c :: r) _ _ _ HC.out _ (by first | omega | (simp only [List.length_cons] at ht; omega) | simp) _ (by first | rfl | simp) _ (by with_unfolding_all rfl)).mono ?_
          rintro e w1 ⟨rfl, hD⟩
          have HB1 := Aside0.mk (const_below (w := wc) (c :: r) (by repeat (first | (with_reducible exact Below.refl _ _) | (with_reducible apply below_drew1) | (with_reducible apply pw_below_drewN))) hD)
          clear hD hcv
          by_cases hA : k = 0
          · subst hA
            have hfin : number l = (0, 13) := by rw [hF.out, HNM.out]; simp
            have HFIN := Aside0.mk hfin
            clear hfin
            go_wp2_with fail
            go_ret2
            exact ⟨by rw [HFIN.out]; rfl, HB1.out⟩
          have hkb : ((k : Int) == 0) = false := by rw [beq_eq_false_iff_ne]; omega
          by_cases hA2 : k < r.length + 1
          · have hkl : decide ((k : Int) < (r.length : Int) + 1) = true := by simp; omega
            have hkm : decide (k < r.length + 1) = true := by simp; omega
            have hfin : number l = (0, 13) := by rw [hF.out, HNM.out]; rw [if_pos (Or.inr (by simp only [List.length_cons]; exact hA2))]
            have HFIN := Aside0.mk hfin
            clear hfin
            go_wp2_with fail
            go_ret2
            exact ⟨by rw [HFIN.out]; rfl, HB1.out⟩
          have hkl : decide ((k : Int) < (r.length : Int) + 1) = false := by simp; omega
          have hkm : decide (k < r.length + 1) = false := by simp; omega
          have HN1 := Aside0.mk (show ¬ (k = 0 ∨ k < ((c :: r)).length) by rintro (h | h); exact hA h; exact hA2 (by first | exact h | simpa using h))
          clear hA hA2
          cases o with
          | false =>
            have hfin : number l = ((n : Int), 0) := by rw [hF.out, HNM.out]; rw [if_neg HN1.out]; simp
            have HFIN := Aside0.mk hfin
            clear hfin
            go_wp2_with fail
            go_ret2
            exact ⟨by rw [HFIN.out]; rfl, HB1.out⟩
          | true =>
            have hfin : number l = (0, 6) := by rw [hF.out, HNM.out]; rw [if_neg HN1.out]; simp
            have HFIN := Aside0.mk hfin
            clear hfin
            go_wp2_with fail
            go_ret2
            exact ⟨by rw [HFIN.out]; rfl, HB1.out⟩
end Go.Proofs.YtjllmamblkejjaaGreatDoor
end

/- The machine in memory: its stack, what it has set; push and pop. No conditions. -/
section
set_option linter.unusedVariables false
set_option linter.unusedSimpArgs false
namespace Go.Proofs.YtjllmamblkejjaaGreatDoor
open Go.RowKit Go.Proofs.YtjllmamblkejjaaGreatDoorW.PrintWords Go.Proofs.YtjllmamblkejjaaGreatDoorW.PrintLast Go.Proofs.YtjllmamblkejjaaGreatDoorW.PrintMore
open PQA Sp

def stk (l : List Int) : List Value := l.reverse.map (Value.int .i64)
theorem stk_len (l : List Int) : (stk l).length = l.length := by simp [stk]
theorem stk_cons (x : Int) (l : List Int) : stk (x :: l) = stk l ++ [.int .i64 x] := by simp [stk]
/-- Block b is a map that has what m has. -/
def VMap (W : World) (b : Nat) (m : Vs) : Prop := W.ownsMap Tryz.prog 9 (plainElem Tryz.prog 9) b m.length (dat m)
theorem keyS : Maps.Keyed Tryz.prog 9 := Maps.string_keyed Tryz.underlying9
theorem VMap.at {W W' : World} {b : Nat} {m : Vs} (h : VMap W b m) (hb : W'.heap[b]? = W.heap[b]?) : VMap W' b m := by
  obtain ⟨es, clock, h1, h2⟩ := h
  exact ⟨es, clock, hb.trans h1, h2⟩
theorem VMap.lt {W : World} {b : Nat} {m : Vs} (h : VMap W b m) : b < W.heap.size := World.ownsMap.lt h
theorem VMap.ofn {W : World} {b n : Nat} {m : Vs} (h : W.ownsMap Tryz.prog 9 (plainElem Tryz.prog 9) b n (dat m)) : VMap W b m := by
  obtain ⟨es, clock, h1, h2, h3, h4⟩ := h
  refine ⟨es, clock, h1, h2, ?_, h4⟩
  have := congrArg Maps.size h4
  rw [dat_size] at this
  simp [Maps.size, length_sorted] at this
  omega
structure MS (base : Nat) (W : World) (gm : Nat) (pv : Value) (s : St) : Prop where
  made : ∃ v bs, W.heap[gm]? = some (.cells #[pv, .map (some bs), v, .int .i64 (s.steps : Int)] 110 (0, 0)) ∧ W.ownsRow base 2 1 v s.stack.length (stk s.stack) ∧ VMap W bs s.set ∧ base ≤ bs
  ge : base ≤ gm
  rising : Rising s.set
  ints : ∀ x ∈ s.stack, -9223372036854775808 ≤ x ∧ x ≤ 9223372036854775807
/-- What the machine's own calls may turn: its own block, its stack's, new memory. -/
structure MKeep (base gm : Nat) (w w' : World) : Prop where
  below : Below base w w'
  block : ∀ k o, w.heap[k]? = some o → (∀ cs, o ≠ .cells cs 2 (0, 0)) → k ≠ gm → w'.heap[k]? = some o
theorem MKeep.refl (base gm : Nat) (w : World) : MKeep base gm w w := ⟨Below.refl _ _, fun _ _ h _ _ => h⟩
theorem MKeep.trans {base gm : Nat} {w w1 w2 : World} (h : MKeep base gm w w1) (k : MKeep base gm w1 w2) : MKeep base gm w w2 :=
  ⟨⟨k.below.os.trans h.below.os, k.below.tape.trans h.below.tape, k.below.output.trans h.below.output, Nat.le_trans h.below.size k.below.size, fun i hi => (k.below.block i hi).trans (h.below.block i hi)⟩,
   fun i o hi ho hg => k.block i o (h.block i o hi ho hg) ho hg⟩
theorem infoN : (Tryz.prog.info? 2).map (fun i => (i.zero, i.size, i.bytes)) = some (some (.int .i64 0), 1, 8) := by kernel_rfl
theorem own_neo {w : World} {base : Nat} {e : TypeId} {size n : Nat} {v : Value} {xs : List Value} (h : w.ownsRow base e size v n xs) {g : Nat} {o : Obj} (hg : w.heap[g]? = some o) (ho : ∀ cs, o ≠ .cells cs e (0, 0)) : some g ≠ v.ownBlock := by
  intro e'
  rcases h.2 with ⟨rfl, _⟩ | ⟨g', cap, cur, rfl, hb, hh, _⟩
  · simp [Value.ownBlock] at e'
  · obtain rfl : g = g' := by simpa [Value.ownBlock] using e'
    rw [hg] at hh
    exact ho _ (Option.some.inj hh)
theorem VMap.obj {W : World} {b : Nat} {m : Vs} (h : VMap W b m) : ∃ es clock, W.heap[b]? = some (.map es clock) := by
  obtain ⟨es, clock, h1, _⟩ := h
  exact ⟨es, clock, h1⟩

set_option maxHeartbeats 4000000 in
set_option maxRecDepth 100000 in
theorem push_calls (base gm : Nat) (pv : Value) (s : St) (x : Int) (w : World) (h : MS base w gm pv s) (hl : s.stack.length ≤ 1000000) (hx1 : -9223372036854775808 ≤ x) (hx2 : x ≤ 9223372036854775807) :
    Calls Tryz.prog 75 #[.pointer (some ⟨gm, 0, none⟩), .int .i64 x] w fun e w' => e = .returned (.tuple #[]) ∧ MS base w' gm pv { s with stack := x :: s.stack } ∧ MKeep base gm w w' := by
  obtain ⟨⟨v, bs, hg, how, hm, hbs⟩, hge, hri, hin⟩ := h
  have hv : w.cell? ⟨gm, 2, none⟩ = some v := (blk_cell hg 2).trans rfl
  have hlt := blk_lt hg
  have hfz := blk_frozen hg 2
  obtain ⟨i0, hi, hz0, hz1, hz2⟩ := info_parts infoN
  have HI := Aside0.mk (And.intro hi (And.intro hz0 (And.intro hz1 hz2)))
  have HOW := Aside0.mk how
  have HG := Aside0.mk hg
  have HM := Aside0.mk hm
  clear how hg hm hi hz0 hz1 hz2
  go_enter Tryz.func75, Tryz.ntmps75
  go_wp2_with (at_builtin; refine wpList_append_lies _ rfl _ _ _ rfl base 2 i0 (.int .i64 0) 1 8 Tryz.underlying108 HI.out.1 HI.out.2.1 HI.out.2.2.1 HI.out.2.2.2 rfl (by omega) v s.stack.length (stk s.stack) rfl (HOW.out.alloc _) ⟨w.heap.size, 0, none⟩ 1 1 [.int .i64 x] rfl rfl (cell_one_new _ _ _) (by simp [Value.oneCell']) (by omega) (by unfold maxLen; omega) (by omega) (by simp; omega) (w.heap.size + 1) (by simp) ?_; intro g6 cap6 w6 ho6 hg6 hat6 hlt6; have hb6 : w6.heap[gm]? = some (.cells #[pv, .map (some bs), v, .int .i64 (s.steps : Int)] 110 (0, 0)) := (hg6.block gm (by simp; omega) (own_ne HOW.out HG.out (by decide))).trans (blk_alloc HG.out _); have hv6 : w6.cell? ⟨gm, 2, none⟩ = some v := (blk_cell hb6 2).trans rfl; have hf6 := blk_frozen hb6 2; have hlg6 := blk_lt hb6; have HB6 := Aside0.mk hb6; have HO6 := Aside0.mk ho6; have HG6 := Aside0.mk hg6; clear ho6 hg6 hat6 hb6)
  go_end0
  have hne6 := own_ne HO6.out HB6.out (by decide)
  obtain ⟨es, clock, hmb⟩ := HM.out.obj
  have hmne : bs ≠ gm := by intro e; rw [e, HG.out] at hmb; cases hmb
  have hm6 : w6.heap[bs]? = w.heap[bs]? := (HG6.out.block bs (by have := blk_lt hmb; simp; omega) (own_neo HOW.out hmb (by intro cs; simp))).trans (Below.heap_alloc w _ bs (blk_lt hmb))
  refine ⟨rfl, ⟨⟨_, bs, blk_set HB6.out 2 _, ?_, ?_, hbs⟩, hge, hri, ?_⟩, ?_, ?_⟩
  · have h := own_keep (w' := w6.setCell ⟨gm, 2, none⟩ (.slice (some ⟨g6, 0, none⟩) (s.stack.length + 1) cap6)) HO6.out (fun q hq hlt => Below.heap_setCell w6 ⟨gm, 2, none⟩ _ q (fun e => hne6 (by rw [hq]; exact congrArg some e.symm)))
    rw [stk_cons]
    exact h
  · exact HM.out.at ((Below.heap_setCell w6 ⟨gm, 2, none⟩ _ bs hmne).trans hm6)
  · intro y hy
    rcases List.mem_cons.1 hy with rfl | hy
    · exact ⟨hx1, hx2⟩
    · exact hin y hy
  · exact Below.setCell (grown_below (Below.alloc (Below.refl base w) (by omega) _) HG6.out (by simp; omega) (fun q hq => (own_lt HOW.out q hq).1)) hge _
  · intro k o hk ho hkg
    exact (Below.heap_setCell w6 ⟨gm, 2, none⟩ _ k hkg).trans ((HG6.out.block k (by have := blk_lt hk; simp; omega) (own_neo HOW.out hk ho)).trans ((Below.heap_alloc w _ k (blk_lt hk)).trans hk))
end Go.Proofs.YtjllmamblkejjaaGreatDoor
end

/- acode.Vars in memory: New, Get, Set, Unset. No conditions. -/
section
set_option linter.unusedVariables false
set_option linter.unusedSimpArgs false
namespace Go.Proofs.YtjllmamblkejjaaGreatDoor
open Go.RowKit Go.Proofs.YtjllmamblkejjaaGreatDoorW.PrintWords Go.Proofs.YtjllmamblkejjaaGreatDoorW.PrintLast Go.Proofs.YtjllmamblkejjaaGreatDoorW.PrintMore
open PQA Sp

def small (l : Bs) : Prop := l.length ≤ 140737488355328
theorem zeroS (w : World) : (zeroValue 9).run Tryz.prog w = .ok (.string ⟨#[]⟩) w := by kernel_rfl
theorem keyOfS {x : Bs} (h : small x) : keyOf Tryz.prog 9 (.string (mk x)) = some (.string x) := by
  have := WideMaps.keyOf_string_mk (P := Tryz.prog) Tryz.underlying9 (s := mk x) (by rw [mk_size]; unfold small at h; unfold maxLen; omega)
  rw [this]; simp [mk]
theorem valS {x : Bs} (h : small x) : plainElem (H := Unit) Tryz.prog 9 (.string (mk x)) = some (.lit (.string x), []) := by
  have := plainElem_string (H := Unit) (P := Tryz.prog) (e := 9) Tryz.underlying9 (s := mk x) (by rw [mk_size]; unfold small at h; unfold maxLen; omega)
  simpa [mk] using this
theorem mk_of (s : ByteArray) : s = mk s.data.toList := by apply mk_ext; simp [mk]
theorem VMap.look {W : World} {b : Nat} {m : Vs} (h : VMap W b m) {x : Bs} (hx : small x) :
    (Instr.lookup 81 (.map (some b)) (.string (mk x)) true).run Tryz.prog W = .ok (.tuple #[.string (mk ((mget x m).getD [])), .bool (mget x m).isSome]) W := by
  obtain ⟨v, ps, hrun, hv⟩ := World.ownsMap.look_ok h keyS Tryz.underlying81 (zeroS W) (valS (x := []) (by simp [small])) (keyOfS hx)
  obtain ⟨s, rfl, hz, _⟩ := plainElem_string_inv Tryz.underlying9 hv
  rw [dat_has] at hrun
  rw [dat_at] at hz
  simp only [Prod.mk.injEq, DataW.lit.injEq, Lit.string.injEq] at hz
  have h1 := hz.1
  rw [hrun, mk_of s, ← h1]
theorem VMap.look1 {W : World} {b : Nat} {m : Vs} (h : VMap W b m) {x : Bs} (hx : small x) :
    (Instr.lookup 81 (.map (some b)) (.string (mk x)) false).run Tryz.prog W = .ok (.string (mk ((mget x m).getD []))) W := by
  obtain ⟨v, ps, hrun, hv⟩ := World.ownsMap.lookup h keyS Tryz.underlying81 (zeroS W) (valS (x := []) (by simp [small])) (keyOfS hx)
  obtain ⟨s, rfl, hz, _⟩ := plainElem_string_inv Tryz.underlying9 hv
  rw [dat_at] at hz
  simp only [Prod.mk.injEq, DataW.lit.injEq, Lit.string.injEq] at hz
  have h1 := hz.1
  rw [hrun, mk_of s, ← h1]
structure VarsIn (W : World) (g bv : Nat) (m : Vs) : Prop where
  blk : W.heap[g]? = some (.cells #[.map (some bv)] 83 (0, 0))
  map : VMap W bv m
  rising : Rising m
  len : m.length ≤ 1000000
  names : ∀ p ∈ m, small p.1
  vals : ∀ p ∈ m, small p.2
theorem VarsIn.keep {W W' : World} {g bv : Nat} {m : Vs} (h : VarsIn W g bv m) (h1 : W'.heap[g]? = W.heap[g]?) (h2 : W'.heap[bv]? = W.heap[bv]?) : VarsIn W' g bv m := ⟨h1.trans h.blk, h.map.at h2, h.rising, h.len, h.names, h.vals⟩
theorem VarsIn.below {W W' : World} {g bv : Nat} {m : Vs} (h : VarsIn W g bv m) (hb : Below W.heap.size W W') : VarsIn W' g bv m := h.keep (hb.block g (blk_lt h.blk)) (hb.block bv h.map.lt)
theorem VarsIn.ne {W : World} {g bv : Nat} {m : Vs} (h : VarsIn W g bv m) : g ≠ bv := by
  obtain ⟨es, clock, he⟩ := h.map.obj
  intro e
  rw [← e, h.blk] at he
  cases he
/-- The variables, or none of them at all. -/
def VarsAt (W : World) (pv : Value) (m : Vs) : Prop := (pv = .pointer none ∧ m = []) ∨ ∃ g bv, pv = .pointer (some ⟨g, 0, none⟩) ∧ VarsIn W g bv m
theorem VarsAt.below {W W' : World} {pv : Value} {m : Vs} (h : VarsAt W pv m) (hb : Below W.heap.size W W') : VarsAt W' pv m := by
  rcases h with h | ⟨g, bv, hp, h⟩
  · exact .inl h
  · exact .inr ⟨g, bv, hp, h.below hb⟩
theorem VarsAt.small {W : World} {pv : Value} {m : Vs} (h : VarsAt W pv m) (x : Bs) : small ((mget x m).getD []) := by
  rcases h with ⟨_, rfl⟩ | ⟨g, bv, _, h⟩
  · simp [mget, Go.Proofs.YtjllmamblkejjaaGreatDoor.small]
  · cases hm : mget x m with
    | none => simp [Go.Proofs.YtjllmamblkejjaaGreatDoor.small]
    | some v => exact h.vals _ ((mget_mem h.rising).1 hm)
set_option maxHeartbeats 4000000 in
theorem get_calls (pv : Value) (m : Vs) (x : Bs) (hx : small x) (w : World) (h : VarsAt w pv m) :
    Calls Tryz.prog 23 #[pv, .string (mk x)] w fun e w' => e = .returned (.tuple #[.string (mk ((mget x m).getD [])), .bool (mget x m).isSome]) ∧ w = w' := by
  rcases h with ⟨rfl, rfl⟩ | ⟨g, bv, rfl, h⟩
  · go_enter Tryz.func23, Tryz.ntmps23
    go_wp2_with fail
    go_ret2
    exact ⟨rfl, rfl⟩
  · have hc : w.cell? ⟨g, 0, none⟩ = some (.map (some bv)) := (blk_cell h.blk 0).trans rfl
    have hl := h.map.look hx
    go_enter Tryz.func23, Tryz.ntmps23
    go_wp2_with fail
    go_ret2
    exact ⟨rfl, rfl⟩
set_option maxHeartbeats 4000000 in
theorem new_calls (w : World) :
    Calls Tryz.prog 11 #[] w fun e w' => ∃ g bv, e = .returned (.pointer (some ⟨g, 0, none⟩)) ∧ VarsIn w' g bv [] ∧ w.heap.size ≤ g ∧ w.heap.size ≤ bv ∧ Below w.heap.size w w' := by
  have hmm := @run_makeMap Tryz.prog
  go_enter Tryz.func11, Tryz.ntmps11
  go_wp2_with fail
  go_ret
  exact ⟨w.heap.size + 1, w.heap.size, rfl, ⟨heap_at (by simp) _, VMap.at (World.ownsMap_made w _ _ _) (Below.heap_alloc _ _ _ (by simp)), List.Pairwise.nil, by simp, by simp, by simp⟩, by omega, by omega, below_alloc (below_alloc (Below.refl _ _) _) _⟩
end Go.Proofs.YtjllmamblkejjaaGreatDoor
end

/- The machine: pop, fail, load. No conditions. -/
section
set_option linter.unusedVariables false
set_option linter.unusedSimpArgs false
namespace Go.Proofs.YtjllmamblkejjaaGreatDoor
open Go.RowKit Go.Proofs.YtjllmamblkejjaaGreatDoorW.PrintWords Go.Proofs.YtjllmamblkejjaaGreatDoorW.PrintLast Go.Proofs.YtjllmamblkejjaaGreatDoorW.PrintMore
open PQA Sp

set_option maxHeartbeats 4000000 in
set_option maxRecDepth 100000 in
theorem pop_calls (base gm : Nat) (pv : Value) (s : St) (x : Int) (r : List Int) (w : World) (h : MS base w gm pv s) (hs : s.stack = x :: r) (hl : r.length ≤ 1000000) :
    Calls Tryz.prog 79 #[.pointer (some ⟨gm, 0, none⟩)] w fun e w' => e = .returned (.int .i64 x) ∧ MS base w' gm pv { s with stack := r } ∧ MKeep base gm w w' := by
  obtain ⟨⟨v, bs, hg, how, hm, hbs⟩, hge, hri, hin⟩ := h
  rw [hs] at how hin
  rcases how.2 with ⟨_, h0⟩ | ⟨g, cap, cur, rfl, hb, hr, hnc, hcap, hcs, htk⟩
  · simp at h0
  have hv : w.cell? ⟨gm, 2, none⟩ = some (.slice (some ⟨g, 0, none⟩) (r.length + 1) cap) := (blk_cell hg 2).trans rfl
  have hcx : w.cell? ⟨g, r.length, none⟩ = some (.int .i64 x) := by
    refine (blk_cell hr _).trans ?_
    have h1 : cur[r.length]? = (stk (x :: r))[r.length]? := by
      rw [← htk, List.getElem?_take_of_lt (by simp)]; simp
    rw [h1, stk_cons, List.getElem?_append_right (by rw [stk_len]; exact Nat.le_refl _), stk_len]
    simp
  have hlt := blk_lt hg
  have hfz := blk_frozen hg 2
  have hgne := own_ne how hg (by decide)
  have hnc1 : r.length + 1 ≤ cap := by simpa using hnc
  have hcapm : (cap : Int) ≤ 9223372036854775807 := by unfold maxLen at hcap; omega
  have HA := Aside0.mk (And.intro hr (And.intro hcs htk))
  have HG := Aside0.mk hg
  have HM := Aside0.mk hm
  have HN := Aside0.mk hgne
  have HI := Aside0.mk hin
  have HB := Aside0.mk hb
  have HC := Aside0.mk hcap
  clear how hg hm hr hcs htk hnc hcap hgne hs hin hb
  go_enter Tryz.func79, Tryz.ntmps79
  go_wp2_with fail
  go_ret
  have hne : ¬ g = gm := fun e => HN.out (by rw [e]; rfl)
  obtain ⟨es, clock, hmb⟩ := HM.out.obj
  have hmne : bs ≠ gm := by intro e; rw [e, HG.out] at hmb; cases hmb
  refine ⟨rfl, ⟨⟨_, bs, blk_set HG.out 2 _, ?_, HM.out.at (Below.heap_setCell w ⟨gm, 2, none⟩ _ bs hmne), hbs⟩, hge, hri, fun y hy => HI.out y (by simp [hy])⟩, ?_, ?_⟩
  · refine ⟨by rw [stk_len]; simp, .inr ⟨g, cap, cur, rfl, HB.out, (Below.heap_setCell w ⟨gm, 2, none⟩ _ g hne).trans HA.out.1, by simp; omega, HC.out, HA.out.2.1, ?_⟩⟩
    have h2 : cur.toList.take (r.length + 1) = stk r ++ [.int .i64 x] := by
      have := HA.out.2.2
      rw [stk_cons] at this
      simpa using this
    have h3 := congrArg (List.take r.length) h2
    rw [List.take_take, List.take_left' (stk_len r)] at h3
    show cur.toList.take (r.length * 1) = stk r
    rw [Nat.mul_one, ← h3]
    congr 1
    omega
  · exact (Below.refl base w).setCell hge _
  · intro k o hk ho hkg
    exact (Below.heap_setCell w ⟨gm, 2, none⟩ _ k hkg).trans hk
set_option maxHeartbeats 4000000 in
theorem afail_calls (E : Nat → Addr) (code pos : Nat) (ci pi : Int) (hci : ci = (code : Int)) (hpi : pi = (pos : Int)) (w : World) (hE : Env E w) (h1 : 1 ≤ code) (h2 : code ≤ 21) :
    Calls Tryz.prog 47 #[.int .i64 ci, .int .i64 pi] w fun e w' => ∃ v, e = .returned v ∧ ErrV E w' v code pos 1 ∧ Below w.heap.size w w' := by
  subst hci hpi
  have HE := Aside0.mk hE
  clear hE
  go_enter Tryz.func47, Tryz.ntmps47
  go_wp2_with fail
  with_reducible refine (of_calls E code _ HE.out h1 h2).mono ?_
  rintro e w' ⟨rfl, rfl⟩
  go_wp2_with fail
  with_reducible refine (at_calls _ _ _ _).mono ?_
  rintro e w' ⟨rfl, rfl⟩
  go_wp2_with fail
  with_reducible refine (in_calls _ _ _ _).mono ?_
  rintro e w' ⟨rfl, rfl⟩
  go_wp2_with fail
  go_ret
  exact ⟨_, rfl, ErrV.made E w code pos 1, below_alloc (below_alloc (Below.refl _ _) _) _⟩
end Go.Proofs.YtjllmamblkejjaaGreatDoor
end

/- The machine: load. No conditions. -/
section
set_option linter.unusedVariables false
set_option linter.unusedSimpArgs false
namespace Go.Proofs.YtjllmamblkejjaaGreatDoor
open Go.RowKit Go.Proofs.YtjllmamblkejjaaGreatDoorW.PrintWords Go.Proofs.YtjllmamblkejjaaGreatDoorW.PrintLast Go.Proofs.YtjllmamblkejjaaGreatDoorW.PrintMore
open PQA Sp

theorem quiet_add_left {P : Program} {f : FuncId} {args : Array Value} {w : World} {a n : Nat} {v : Value}
    (h : Calls P f args (w.drewN (a + n)) fun e w' => e = .returned v ∧ w.drewN (a + n) = w') :
    Calls P f args (w.drewN (a + n)) fun e w'' => e = .returned v ∧ ∃ m, w'' = w.drewN (a + m) :=
  h.mono fun _ _ ⟨he, hm⟩ => ⟨he, n, hm.symm⟩
theorem number_range (s : Bs) : -9223372036854775808 ≤ (number s).1 ∧ (number s).1 ≤ 9223372036854775807 := by
  unfold number
  split
  · simp
  · generalize unsign _ = u
    have := const_max u
    unfold maxI at this
    unfold numOf
    split
    · simp
    · split
      · simp
      · split
        · simp
        · split <;> simp <;> omega
theorem number_code (s : Bs) : (number s).2 = 0 ∨ (1 ≤ (number s).2 ∧ (number s).2 ≤ 21) := by
  unfold number
  split
  · simp
  · unfold numOf
    split
    · simp
    · split
      · simp
      · split
        · simp
        · split <;> simp
/-- What the machine is handed by these variables. -/
def getOf (m : Vs) (x : Bs) : Bs := (mget x m).getD []
theorem MS.alloc {base gm : Nat} {w : World} {pv : Value} {s : St} (h : MS base w gm pv s) (o : Obj) : MS base (w.alloc o) gm pv s := by
  obtain ⟨⟨v, bs, hg, how, hm, hbs⟩, hge, hri, hin⟩ := h
  exact ⟨⟨v, bs, blk_alloc hg o, own_keep how (fun q _ hq => Below.heap_alloc w o q hq), hm.at (Below.heap_alloc w o _ hm.lt), hbs⟩, hge, hri, hin⟩
theorem MS.below {base gm : Nat} {w w' : World} {pv : Value} {s : St} (h : MS base w gm pv s) (hb : Below w.heap.size w w') : MS base w' gm pv s := by
  obtain ⟨⟨v, bs, hg, how, hm, hbs⟩, hge, hri, hin⟩ := h
  exact ⟨⟨v, bs, blk_below hg hb, own_keep how (fun q _ hq => hb.block q hq), hm.at (hb.block _ hm.lt), hbs⟩, hge, hri, hin⟩
theorem MKeep.alloc {base gm : Nat} {w W : World} (h : MKeep base gm w W) (hb : base ≤ W.heap.size) (o : Obj) : MKeep base gm w (W.alloc o) :=
  ⟨h.below.alloc hb o, fun k o' hk ho hg => (Below.heap_alloc W o k (blk_lt (h.block k o' hk ho hg))).trans (h.block k o' hk ho hg)⟩
theorem MKeep.on {base gm : Nat} {w W W' : World} (h : MKeep base gm w W) (hB : base ≤ W.heap.size) (hb : Below W.heap.size W W') : MKeep base gm w W' :=
  ⟨h.below.trans (hb.mono hB), fun k o' hk ho hg => (hb.block k (blk_lt (h.block k o' hk ho hg))).trans (h.block k o' hk ho hg)⟩
structure LoadPost (E : Nat → Addr) (base gm : Nat) (pv : Value) (s : St) (r : Int × Nat) (pos : Nat) (w : World) (e : Ending) (w' : World) : Prop where
  keep : MKeep base gm w w'
  ok : r.2 = 0 → e = .returned .nilIface ∧ MS base w' gm pv { s with stack := r.1 :: s.stack }
  bad : r.2 ≠ 0 → MS base w' gm pv s ∧ ∃ v, e = .returned v ∧ ErrV E w' v r.2 pos 1
set_option maxHeartbeats 4000000 in
set_option maxRecDepth 100000 in
theorem load_calls (E : Nat → Addr) (base gm : Nat) (pv : Value) (m : Vs) (s : St) (i : I) (w : World) (hE : Env E w) (h : MS base w gm pv s) (hv : VarsAt w pv m) (hpv : ∃ a, pv = .pointer a) (hx : small i.name) (hsm : ∀ p ∈ s.set, small p.2) (hl : s.stack.length ≤ 1000000) (M : Mach) (hM : M.get = getOf m) :
    Calls Tryz.prog 76 #[.pointer (some ⟨gm, 0, none⟩), .agg (icells i).toArray] w (LoadPost E base gm pv s (number (look M s.set i.name)) i.pos w) := by
  obtain ⟨v, bs, hg, how, hm, hbs⟩ := h.made
  have hgl := h.ge
  have hri := h.rising
  show Calls _ _ #[_, .agg #[.int .i64 (i.op : Int), .int .i64 i.n, .string (mk i.name), .string (mk i.by_), .int .i64 (i.pos : Int), .int .i64 (i.dest : Int)]] _ _
  generalize hB : Obj.cells #[.int .i64 (i.op : Int), .int .i64 i.n, .string (mk i.name), .string (mk i.by_), .int .i64 (i.pos : Int), .int .i64 (i.dest : Int)] 141 = B
  have hmA := (hm.at (W' := w.alloc B) (Below.heap_alloc w B _ hm.lt))
  have hlk : ∀ nq, (Instr.lookup 81 (.map (some bs)) (.string (mk i.name)) true).run Tryz.prog ((w.alloc B).drewN nq) = .ok (.tuple #[.string (mk ((mget i.name s.set).getD [])), .bool (mget i.name s.set).isSome]) ((w.alloc B).drewN nq) := fun nq => (hmA.at (W' := (w.alloc B).drewN nq) rfl).look hx
  subst hB
  have hc1 : w.cell? ⟨gm, 1, none⟩ = some (.map (some bs)) := (blk_cell hg 1).trans rfl
  have hc0 : w.cell? ⟨gm, 0, none⟩ = some pv := (blk_cell hg 0).trans rfl
  have hlt := blk_lt hg
  have hne : gm ≠ w.heap.size := by omega
  have hrange := number_range (look M s.set i.name)
  have HR := Aside0.mk hrange
  have HCD := Aside0.mk (number_code (look M s.set i.name))
  have HG := Aside0.mk hg
  have HH := Aside0.mk h
  have HV := Aside0.mk hv
  have HE := Aside0.mk hE
  clear how hm hg hmA h hv hE hri hrange
  have HLK : Aside0 (look M s.set i.name = (mget i.name s.set).getD (getOf m i.name)) := ⟨by unfold look; rw [hM]⟩
  cases hget : mget i.name s.set with
  | some y =>
    rw [hget] at hlk HLK
    have hys : small y := hsm (i.name, y) ((mget_mem HH.out.rising).1 hget)
    have HSY : Aside0 (y.length ≤ 140737488355328) := ⟨hys⟩
    have HY := Aside0.mk (HLK.out.trans (Option.getD_some : (some y).getD (getOf m i.name) = y))
    simp only [Option.getD_some, Option.isSome_some] at hlk
    clear hget HLK
    go_enter Tryz.func76, Tryz.ntmps76
    go_wp2_with fail
    go_quiet (fail)
    go_wp2_with fail
    with_reducible refine (number_calls y HSY.out _).mono ?_
    rintro e w1 ⟨rfl, hb⟩
    have hb1 : Below w.heap.size w w1 := by
      refine below_then ?_ ?_ hb
      · repeat (first | (with_reducible exact Below.refl _ _) | (with_reducible apply pw_below_drewN) | (with_reducible apply below_alloc))
      · simp
    have hbx : w1.heap[w.heap.size]? = some (.cells #[.int .i64 (i.op : Int), .int .i64 i.n, .string (mk i.name), .string (mk i.by_), .int .i64 (i.pos : Int), .int .i64 (i.dest : Int)] 141 (0, 0)) := (hb.block _ (by simp)).trans (heap_new (w := w) (W := w) rfl _)
    have hx4 : w1.cell? ⟨w.heap.size, 4, none⟩ = some (.int .i64 (i.pos : Int)) := (blk_cell hbx 4).trans rfl
    have hlt1 := blk_lt hbx
    have HM1 := Aside0.mk (HH.out.below hb1)
    have HK1 := Aside0.mk ((MKeep.refl base gm w).on (by omega) hb1)
    have HE1 := Aside0.mk (HE.out.below hb1)
    clear hb hb1 hbx hlk
    by_cases hcode : (number y).2 = 0
    · have hcb : (((number y).2 : Int) != 0) = false := by simp [hcode]
      have HC0 := Aside0.mk hcode
      clear hcode
      go_wp2_with fail
      with_reducible refine (push_calls base gm pv s (number y).1 _ HM1.out hl (by have := HR.out; rw [HY.out] at this; exact this.1) (by have := HR.out; rw [HY.out] at this; exact this.2)).mono ?_
      rintro e w2 ⟨rfl, hm2, hk2⟩
      go_wp2_with fail
      go_ret
      refine ⟨HK1.out.trans hk2, fun _ => ⟨rfl, ?_⟩, fun hne => absurd (by rw [HY.out]; exact HC0.out) hne⟩
      rw [HY.out]
      exact hm2
    · have hcb : (((number y).2 : Int) != 0) = true := by rw [bne_iff_ne]; omega
      have HC0 := Aside0.mk hcode
      have hcd : 1 ≤ (number y).2 ∧ (number y).2 ≤ 21 := by have h1 := HCD.out; rw [HY.out] at h1; rcases h1 with h1 | h1; exact absurd h1 hcode; exact h1
      have HCE := Aside0.mk hcd
      clear hcode hcd
      go_wp2_with fail
      with_reducible refine (afail_calls E (number y).2 i.pos _ _ rfl rfl _ HE1.out HCE.out.1 HCE.out.2).mono ?_
      rintro e w2 ⟨v2, rfl, hev, hb2⟩
      go_wp2_with fail
      go_ret
      refine ⟨HK1.out.on (by omega) hb2, fun h0 => absurd (by rw [← HY.out]; exact h0) HC0.out, fun _ => ⟨HM1.out.below hb2, v2, rfl, ?_⟩⟩
      rw [HY.out]
      exact hev
  | none =>
    rw [hget] at hlk HLK
    obtain ⟨y, hy⟩ : ∃ y, y = getOf m i.name := ⟨_, rfl⟩
    have hys : small y := by rw [hy]; exact HV.out.small i.name
    have HSY : Aside0 (y.length ≤ 140737488355328) := ⟨hys⟩
    have HY := Aside0.mk (HLK.out.trans ((Option.getD_none : (none : Option Bs).getD (getOf m i.name) = getOf m i.name).trans hy.symm))
    simp only [Option.getD_none, Option.isSome_none] at hlk
    obtain ⟨b, hb⟩ : ∃ b, b = (mget i.name m).isSome := ⟨_, rfl⟩
    have HGE : Aside0 (∀ n, Calls Tryz.prog 23 #[pv, .string (mk i.name)] ((w.alloc (.cells #[.int .i64 (i.op : Int), .int .i64 i.n, .string (mk i.name), .string (mk i.by_), .int .i64 (i.pos : Int), .int .i64 (i.dest : Int)] 141)).drewN n) fun e w' => e = .returned (.tuple #[.string (mk y), .bool b]) ∧ (w.alloc (.cells #[.int .i64 (i.op : Int), .int .i64 i.n, .string (mk i.name), .string (mk i.by_), .int .i64 (i.pos : Int), .int .i64 (i.dest : Int)] 141)).drewN n = w') := ⟨fun n => by
      rw [hy, hb]
      exact get_calls pv m i.name hx _ (HV.out.below (pw_below_drewN (below_alloc (Below.refl _ _) _) _))⟩
    clear hget HLK hy hb
    go_enter Tryz.func76, Tryz.ntmps76
    go_wp2_with fail
    go_quiet (fail)
    go_wp2_with fail
    go_quiet ((go_at_call 23; exact quiet_add_left (HGE.out _)))
    go_wp2_with fail
    with_reducible refine (number_calls y HSY.out _).mono ?_
    rintro e w1 ⟨rfl, hb⟩
    have hb1 : Below w.heap.size w w1 := by
      refine below_then ?_ ?_ hb
      · repeat (first | (with_reducible exact Below.refl _ _) | (with_reducible apply pw_below_drewN) | (with_reducible apply below_alloc))
      · simp
    have hbx : w1.heap[w.heap.size]? = some (.cells #[.int .i64 (i.op : Int), .int .i64 i.n, .string (mk i.name), .string (mk i.by_), .int .i64 (i.pos : Int), .int .i64 (i.dest : Int)] 141 (0, 0)) := (hb.block _ (by simp)).trans (heap_new (w := w) (W := w) rfl _)
    have hx4 : w1.cell? ⟨w.heap.size, 4, none⟩ = some (.int .i64 (i.pos : Int)) := (blk_cell hbx 4).trans rfl
    have hlt1 := blk_lt hbx
    have HM1 := Aside0.mk (HH.out.below hb1)
    have HK1 := Aside0.mk ((MKeep.refl base gm w).on (by omega) hb1)
    have HE1 := Aside0.mk (HE.out.below hb1)
    clear hb hb1 hbx hlk
    by_cases hcode : (number y).2 = 0
    · have hcb : (((number y).2 : Int) != 0) = false := by simp [hcode]
      have HC0 := Aside0.mk hcode
      clear hcode
      go_wp2_with fail
      with_reducible refine (push_calls base gm pv s (number y).1 _ HM1.out hl (by have := HR.out; rw [HY.out] at this; exact this.1) (by have := HR.out; rw [HY.out] at this; exact this.2)).mono ?_
      rintro e w2 ⟨rfl, hm2, hk2⟩
      go_wp2_with fail
      go_ret
      refine ⟨HK1.out.trans hk2, fun _ => ⟨rfl, ?_⟩, fun hne => absurd (by rw [HY.out]; exact HC0.out) hne⟩
      rw [HY.out]
      exact hm2
    · have hcb : (((number y).2 : Int) != 0) = true := by rw [bne_iff_ne]; omega
      have HC0 := Aside0.mk hcode
      have hcd : 1 ≤ (number y).2 ∧ (number y).2 ≤ 21 := by have h1 := HCD.out; rw [HY.out] at h1; rcases h1 with h1 | h1; exact absurd h1 hcode; exact h1
      have HCE := Aside0.mk hcd
      clear hcode hcd
      go_wp2_with fail
      with_reducible refine (afail_calls E (number y).2 i.pos _ _ rfl rfl _ HE1.out HCE.out.1 HCE.out.2).mono ?_
      rintro e w2 ⟨v2, rfl, hev, hb2⟩
      go_wp2_with fail
      go_ret
      refine ⟨HK1.out.on (by omega) hb2, fun h0 => absurd (by rw [← HY.out]; exact h0) HC0.out, fun _ => ⟨HM1.out.below hb2, v2, rfl, ?_⟩⟩
      rw [HY.out]
      exact hev
end Go.Proofs.YtjllmamblkejjaaGreatDoor
end

/- The machine's operators, by the kit's print. No conditions. -/
section
set_option linter.unusedVariables false
set_option linter.unusedSimpArgs false
namespace Go.Proofs.YtjllmamblkejjaaGreatDoor
open Go.RowKit Go.Proofs.YtjllmamblkejjaaGreatDoorW.PrintWords Go.Proofs.YtjllmamblkejjaaGreatDoorW.PrintLast Go.Proofs.YtjllmamblkejjaaGreatDoorW.PrintMore
open PQA PQB Sp

def one (by_ : Bs) (x : Int) : Int := (acode_one.f (mk by_) x).getD 0
def two (by_ : Bs) (x y : Int) : Int := (acode_two.f 1 (mk by_) x y).getD 0
def mach (m : Vs) : Mach := ⟨getOf m, one, two⟩
def In64 (x : Int) : Prop := -9223372036854775808 ≤ x ∧ x ≤ 9223372036854775807
theorem in_wrap (x : Int) : In64 (wrap64 x) := by unfold In64 wrap64; omega
theorem truth_f (b : Bool) : acode_truth.f b = some (tr b) := by cases b <;> rfl
theorem in_tr (b : Bool) : In64 (tr b) := by cases b <;> simp [tr, In64]
theorem truth_calls (b : Bool) (w : World) : Calls Tryz.prog 81 #[.bool b] w fun e w' => e = .returned (.int .i64 (tr b)) ∧ Drawn0 w w' := acode_truth.calls b _ w (truth_f b)
theorem wrap_in (x : Int) : In64 (IntKind.i64.wrap x) := by
  unfold In64
  simp [IntKind.wrap, IntKind.signed, IntKind.bits]
  omega
theorem bits_in (op : BinOp) (a b : Int) : In64 (Go.bits op .i64 a b) := by unfold Go.bits; exact wrap_in _
theorem shr_in {x : Int} (h : In64 x) (y : Int) : In64 (shr .i64 x y) := by
  unfold shr
  generalize hd : (2 : Int) ^ min y.toNat IntKind.i64.bits = d
  have hp : 0 < d := by rw [← hd]; exact Int.pow_pos (by omega)
  obtain ⟨h1, h2⟩ := h
  constructor
  · rw [Int.le_ediv_iff_mul_le hp]
    have : (-9223372036854775808 : Int) * d ≤ -9223372036854775808 * 1 := Int.mul_le_mul_of_nonpos_left (by omega) (by omega)
    omega
  · have h3 : x / d < 9223372036854775808 := by
      rw [Int.ediv_lt_iff_lt_mul hp]
      have : (9223372036854775808 : Int) * 1 ≤ 9223372036854775808 * d := Int.mul_le_mul_of_nonneg_left (by omega) (by omega)
      omega
    omega
theorem tmod_in {x : Int} (h : In64 x) (y : Int) : In64 (Int.tmod x y) := by
  obtain ⟨h1, h2⟩ := h
  have ha : (Int.tmod x y).natAbs ≤ x.natAbs := by rw [Int.natAbs_tmod]; exact Nat.mod_le _ _
  rcases Int.le_total 0 x with h0 | h0
  · have := Int.tmod_nonneg y h0
    unfold In64; omega
  · have h3 : 0 ≤ Int.tmod (-x) y := Int.tmod_nonneg y (by omega)
    rw [Int.neg_tmod] at h3
    unfold In64; omega
theorem one_some (by_ : Bs) (x : Int) : acode_one.f (mk by_) x = some (one by_ x) := by
  unfold one
  have : (acode_one.f (mk by_) x).isSome := by
    unfold acode_one.f
    simp only [truth_f]
    repeat (first | rfl | split)
  obtain ⟨y, hy⟩ := Option.isSome_iff_exists.1 this
  rw [hy]; rfl
theorem one_calls (by_ : Bs) (x : Int) (w : World) : Calls Tryz.prog 78 #[.string (mk by_), .int .i64 x] w fun e w' => e = .returned (.int .i64 (one by_ x)) ∧ Drawn0 w w' := acode_one.calls _ _ _ w (one_some by_ x)
theorem one_in {by_ : Bs} {x : Int} (h : In64 x) : In64 (one by_ x) := by
  have hs := one_some by_ x
  generalize one by_ x = r at *
  unfold acode_one.f at hs
  simp only [truth_f] at hs
  split at hs
  · injection hs with hs; rw [← hs]; exact in_wrap _
  · split at hs
    · injection hs with hs; rw [← hs]; exact in_tr _
    · split at hs
      · injection hs with hs; rw [← hs]; exact bits_in _ _ _
      · injection hs with hs; rw [← hs]; exact h
def cmp (by_ : Bs) (x y : Int) : Int := (acode_compared.f 1 (mk by_) x y).getD 0
theorem cmp_some (by_ : Bs) (x y : Int) : ∃ b, acode_compared.f 1 (mk by_) x y = some (tr b) := by
  unfold acode_compared.f acode_compared.j0
  simp only [truth_f]
  repeat (first | exact ⟨_, rfl⟩ | split)
def Pz (z : Option Int) : Prop := ∃ r, z = some r ∧ In64 r
theorem p_ite {c : Prop} [Decidable c] {A B : Option Int} (h : c → Pz A) (k : ¬ c → Pz B) : Pz (if c then A else B) := by
  by_cases hc : c
  · rw [if_pos hc]; exact h hc
  · rw [if_neg hc]; exact k hc
theorem p_some {x : Int} (h : In64 x) : Pz (some x) := ⟨x, rfl, h⟩
theorem and_nonneg (z : Int) : 0 ≤ Go.bits .and .u64 z 63 := by
  unfold Go.bits
  simp only [IntKind.wrap, IntKind.signed, IntKind.bits]
  exact Int.emod_nonneg _ (by decide)
theorem two_f (by_ : Bs) (x y : Int) (h : ¬ (y = 0 ∧ divides by_)) (hx : In64 x) : Pz (acode_two.f 1 (mk by_) x y) := by
  unfold acode_two.f
  rw [mk_toList]
  refine p_ite (fun _ => p_some (in_wrap _)) fun _ => p_ite (fun _ => p_some (in_wrap _)) fun _ => p_ite (fun _ => p_some (in_wrap _)) fun _ => p_ite (fun hd => ?_) fun _ => p_ite (fun hd => ?_) fun _ => p_ite (fun _ => p_some (bits_in _ _ _)) fun _ => p_ite (fun _ => p_some (bits_in _ _ _)) fun _ => p_ite (fun _ => p_some (bits_in _ _ _)) fun _ => p_ite (fun _ => ?_) fun _ => p_ite (fun _ => ?_) fun _ => ?_
  · exact p_ite (fun h0 => absurd ⟨h0, .inl hd⟩ h) fun _ => p_some (in_wrap _)
  · exact p_ite (fun h0 => absurd ⟨h0, .inr hd⟩ h) fun _ => p_some (tmod_in hx _)
  · exact p_ite (fun _ => p_some (wrap_in _)) fun h0 => absurd (and_nonneg _) h0
  · exact p_ite (fun _ => p_some (shr_in hx _)) fun h0 => absurd (and_nonneg _) h0
  · obtain ⟨b, hb⟩ := cmp_some by_ x y
    rw [hb]
    exact p_some (in_tr b)
theorem two_some (by_ : Bs) (x y : Int) (h : ¬ (y = 0 ∧ divides by_)) (hx : In64 x) : acode_two.f 1 (mk by_) x y = some (two by_ x y) ∧ In64 (two by_ x y) := by
  obtain ⟨r, hr, hi⟩ := two_f by_ x y h hx
  have : two by_ x y = r := by unfold two; rw [hr]; rfl
  rw [this]
  exact ⟨hr, hi⟩
theorem two_calls (by_ : Bs) (x y : Int) (h : ¬ (y = 0 ∧ divides by_)) (hx : In64 x) (w : World) : Calls Tryz.prog 80 #[.string (mk by_), .int .i64 x, .int .i64 y] w fun e w' => e = .returned (.int .i64 (two by_ x y)) ∧ Drawn0 w w' := acode_two.calls _ _ _ _ _ w (two_some by_ x y h hx).1
end Go.Proofs.YtjllmamblkejjaaGreatDoor
end

/- Plain law: a text in parentheses within another reads as it does by itself; more fuel changes nothing. No program in sight. No conditions. -/
section
set_option linter.unusedVariables false
set_option linter.unusedSimpArgs false
namespace Go.Proofs.YtjllmamblkejjaaGreatDoor
open Sp

/-! ### fuel -/
def Le {α : Type} (r r' : Res α) : Prop := r ≠ .out → r' = r
theorem Le.refl {α : Type} (r : Res α) : Le r r := fun _ => rfl
theorem Le.bind {α β : Type} {r r' : Res α} {F F' : α → Tok → Res β} (h : Le r r') (k : ∀ e t, r = .ok e t → Le (F e t) (F' e t)) : Le (r.bind F) (r'.bind F') := by
  intro hne
  cases r with
  | ok e t => rw [h (by simp)]; exact k e t rfl hne
  | err c p => rw [h (by simp)]; rfl
  | out => exact absurd rfl hne
theorem Le.ite {α : Type} {c : Prop} [Decidable c] {a a' b b' : Res α} (h : c → Le a a') (k : ¬ c → Le b b') : Le (if c then a else b) (if c then a' else b') := by
  by_cases hc : c
  · rw [if_pos hc, if_pos hc]; exact h hc
  · rw [if_neg hc, if_neg hc]; exact k hc
theorem fuel1 (b : Bs) : ∀ f, (∀ t, Le (expr b f t) (expr b (f + 1) t)) ∧ (∀ t, Le (Sp.cond b f t) (Sp.cond b (f + 1) t)) ∧ (∀ l t, Le (bin b f l t) (bin b (f + 1) l t)) ∧ (∀ l e t, Le (loop b f l e t) (loop b (f + 1) l e t)) ∧ (∀ t, Le (operand b f t) (operand b (f + 1) t)) := by
  intro f
  induction f with
  | zero => exact ⟨fun t h => by rw [expr] at h; exact absurd rfl h, fun t h => by rw [Sp.cond] at h; exact absurd rfl h, fun l t h => by rw [bin] at h; exact absurd rfl h, fun l e t h => by rw [loop] at h; exact absurd rfl h, fun t h => by rw [operand] at h; exact absurd rfl h⟩
  | succ f ih =>
    obtain ⟨hE, hC, hB, hL, hO⟩ := ih
    refine ⟨fun t => ?_, fun t => ?_, fun l t => ?_, fun l e t => ?_, fun t => ?_⟩
    · rw [expr, expr]
      exact Le.ite (fun _ => (hE _).bind fun e t' _ => Le.refl _) fun _ => hC t
    · rw [Sp.cond, Sp.cond]
      refine (hB 0 t).bind fun e t1 _ => Le.ite (fun _ => ?_) fun _ => Le.refl _
      exact (hE _).bind fun a t2 _ => Le.ite (fun _ => (hC _).bind fun c t3 _ => Le.refl _) fun _ => Le.refl _
    · rw [bin, bin]
      exact (hO t).bind fun e t1 _ => hL l e t1
    · rw [loop, loop]
      exact Le.ite (fun _ => Le.refl _) fun _ => (hB _ _).bind fun k t' _ => hL _ _ _
    · rw [operand, operand]
      refine Le.ite (fun _ => (hO _).bind fun e t' _ => Le.refl _) fun _ => Le.ite (fun _ => (hO _).bind fun e t' _ => Le.refl _) fun _ => Le.ite (fun _ => Le.refl _) fun _ => Le.ite (fun _ => Le.refl _) fun _ => Le.ite (fun _ => ?_) fun _ => Le.refl _
      exact (hE _).bind fun e t' _ => Le.refl _
theorem Le.up {α : Type} {X : Nat → Res α} (h : ∀ f, Le (X f) (X (f + 1))) {f : Nat} {r : Res α} (hr : X f = r) (hne : r ≠ .out) (n : Nat) : X (f + n) = r := by
  induction n with
  | zero => exact hr
  | succ n ih => rw [← Nat.add_assoc, h (f + n) (by rw [ih]; exact hne), ih]
/-- With enough fuel X comes to e and t. -/
def Gets {α : Type} (X : Nat → Res α) (e : α) (t : Tok) : Prop := ∃ f, ∀ n, X (f + n) = .ok e t
theorem gets_expr {b : Bs} {f : Nat} {t t' : Tok} {e : Ex} (h : expr b f t = .ok e t') : Gets (expr b · t) e t' := ⟨f, fun n => Le.up (X := (expr b · t)) (fun f => (fuel1 b f).1 t) h (by simp) n⟩

/-! ### how a text is put together -/
theorem Gets.two {α β γ : Type} {X : Nat → Res α} {Y : Nat → Res β} {e : α} {e' : β} {t t' : Tok} (h : Gets X e t) (k : Gets Y e' t') : ∃ f, ∀ n, X (f + n) = .ok e t ∧ Y (f + n) = .ok e' t' := by
  obtain ⟨f, hf⟩ := h
  obtain ⟨g, hg⟩ := k
  exact ⟨f + g, fun n => ⟨by rw [Nat.add_assoc]; exact hf _, by rw [show f + g + n = g + (f + n) by omega]; exact hg _⟩⟩
theorem g_operand_num {b : Bs} {t : Tok} {e : Ex} {t' : Tok} (ho : t.op = wNum) (hc : constant b t = .ok e t') : Gets (operand b · t) e t' :=
  ⟨1, fun n => by rw [Nat.add_comm 1 n]; show operand b (n + 1) t = _; rw [operand]; simp [ho, hc, wNum]⟩
theorem g_operand_name {b : Bs} {t : Tok} (ho : t.op = wName) : Gets (operand b · t) (.name t.name t.pos) (next b t.fin) :=
  ⟨1, fun n => by rw [Nat.add_comm 1 n]; show operand b (n + 1) t = _; rw [operand]; simp [ho, wName, wNum]⟩
theorem g_operand_par {b : Bs} {t t' : Tok} {e : Ex} (ho : t.op = [40]) (h : Gets (expr b · (next b t.fin)) e t') (hc : t'.op = [41]) : Gets (operand b · t) e (next b t'.fin) := by
  obtain ⟨f, hf⟩ := h
  refine ⟨f + 1, fun n => ?_⟩
  show operand b (f + 1 + n) t = _
  rw [show f + 1 + n = f + n + 1 by omega, operand]
  simp [ho, wName, wNum, hf n, Res.bind, hc]
theorem g_loop_end {b : Bs} {l : Nat} {e : Ex} {t : Tok} (hs : strength t.op < l + 1) : Gets (loop b · l e t) e t :=
  ⟨1, fun n => by rw [Nat.add_comm 1 n]; show loop b (n + 1) l e t = _; rw [loop, if_pos hs]⟩
theorem g_loop_on {b : Bs} {l : Nat} {e k e' : Ex} {t t' t'' : Tok} (hs : ¬ strength t.op < l + 1) (h : Gets (bin b · (strength t.op) (next b t.fin)) k t') (h2 : Gets (loop b · l (.bin t.op t.pos e k) t') e' t'') : Gets (loop b · l e t) e' t'' := by
  obtain ⟨f, hf⟩ := Gets.two (γ := Unit) h h2
  refine ⟨f + 1, fun n => ?_⟩
  show loop b (f + 1 + n) l e t = _
  rw [show f + 1 + n = f + n + 1 by omega, loop, if_neg hs, (hf n).1]
  exact (hf n).2
theorem g_bin {b : Bs} {l : Nat} {e e' : Ex} {t t' t'' : Tok} (h : Gets (operand b · t) e t') (h2 : Gets (loop b · l e t') e' t'') : Gets (bin b · l t) e' t'' := by
  obtain ⟨f, hf⟩ := Gets.two (γ := Unit) h h2
  refine ⟨f + 1, fun n => ?_⟩
  show bin b (f + 1 + n) l t = _
  rw [show f + 1 + n = f + n + 1 by omega, bin, (hf n).1]
  exact (hf n).2
theorem g_cond {b : Bs} {e : Ex} {t t' : Tok} (h : Gets (bin b · 0 t) e t') (hq : t'.op ≠ [63]) : Gets (Sp.cond b · t) e t' := by
  obtain ⟨f, hf⟩ := h
  refine ⟨f + 1, fun n => ?_⟩
  show Sp.cond b (f + 1 + n) t = _
  rw [show f + 1 + n = f + n + 1 by omega, Sp.cond]
  have := hf n
  simp only at this
  rw [this]
  simp [Res.bind, hq]
theorem g_tern {b : Bs} {c x y : Ex} {t t1 t2 t3 : Tok} (h : Gets (bin b · 0 t) c t1) (hq : t1.op = [63]) (h2 : Gets (expr b · (next b t1.fin)) x t2) (hc : t2.op = [58]) (h3 : Gets (Sp.cond b · (next b t2.fin)) y t3) : Gets (Sp.cond b · t) (.tern t1.pos c x y) t3 := by
  obtain ⟨f, hf⟩ := Gets.two (γ := Unit) h h2
  obtain ⟨g, hg⟩ := h3
  refine ⟨f + g + 1, fun n => ?_⟩
  show Sp.cond b (f + g + 1 + n) t = _
  rw [show f + g + 1 + n = f + (g + n) + 1 by omega, Sp.cond, (hf (g + n)).1]
  simp only [Res.bind, hq, if_true, (hf (g + n)).2, hc]
  have := hg (f + n)
  simp only at this
  rw [show f + (g + n) = g + (f + n) by omega, this]
theorem g_expr_cond {b : Bs} {e : Ex} {t t' : Tok} (hn : ¬ (t.op = wName ∧ assigns (next b t.fin).op = true)) (h : Gets (Sp.cond b · t) e t') : Gets (expr b · t) e t' := by
  obtain ⟨f, hf⟩ := h
  refine ⟨f + 1, fun n => ?_⟩
  show expr b (f + 1 + n) t = _
  rw [show f + 1 + n = f + n + 1 by omega, expr, if_neg hn]
  exact hf n
theorem g_expr_asg {b : Bs} {e : Ex} {t t' : Tok} (hn : t.op = wName) (ha : assigns (next b t.fin).op = true) (h : Gets (expr b · (next b (next b t.fin).fin)) e t') : Gets (expr b · t) (.asg (next b t.fin).op t.name t.pos (next b t.fin).pos e) t' := by
  obtain ⟨f, hf⟩ := h
  refine ⟨f + 1, fun n => ?_⟩
  show expr b (f + 1 + n) t = _
  rw [show f + 1 + n = f + n + 1 by omega, expr, if_pos ⟨hn, ha⟩]
  have := hf n
  simp only at this
  rw [this]
  rfl
/-- With any fuel that is enough to come to an answer at all. -/
theorem Gets.at {α : Type} {X : Nat → Res α} {e : α} {t : Tok} (h : Gets X e t) (hX : ∀ f, Le (X f) (X (f + 1))) (f : Nat) (hf : X f ≠ .out) : X f = .ok e t := by
  obtain ⟨g, hg⟩ := h
  have h1 := Le.up hX (f := f) rfl hf g
  have h2 := hg f
  rw [Nat.add_comm g f, h1] at h2
  exact h2
theorem parse_gets {b : Bs} {e : Ex} {t : Tok} (h : Gets (expr b · (next b 0)) e t) (ht : t.op = []) (f : Nat) (hf : parse b f ≠ .out) : parse b f = .ok e t := by
  have hx : expr b f (next b 0) ≠ .out := fun h => hf (by unfold parse; rw [h]; rfl)
  have := h.at (fun f => (fuel1 b f).1 _) f hx
  unfold parse
  rw [this]
  simp [Res.bind, ht]
theorem parse_inv {b : Bs} {f : Nat} {e : Ex} {t : Tok} (h : parse b f = .ok e t) : t.op = [] ∧ expr b f (next b 0) = .ok e t := by
  unfold parse at h
  cases hx : expr b f (next b 0) with
  | ok e' t' =>
    rw [hx] at h
    simp only [Res.bind] at h
    split at h
    · rename_i ho
      injection h with h1 h2
      subst h1 h2
      exact ⟨ho, rfl⟩
    · simp [bar] at h
  | err c p => rw [hx] at h; simp [Res.bind] at h
  | out => rw [hx] at h; simp [Res.bind] at h
end Go.Proofs.YtjllmamblkejjaaGreatDoor
end

/- Plain law: a text in parentheses within another reads as it does by itself. No program in sight. No conditions. -/
section
set_option linter.unusedVariables false
set_option linter.unusedSimpArgs false
namespace Go.Proofs.YtjllmamblkejjaaGreatDoor
open Sp

def shT (k : Nat) (t : Tok) : Tok := { t with pos := t.pos + k, fin := t.fin + k }
def shE (k : Nat) : Ex → Ex
  | .num n pos => .num n (pos + k)
  | .name x pos => .name x (pos + k)
  | .un op pos e => .un op (pos + k) (shE k e)
  | .bin op pos a b => .bin op (pos + k) (shE k a) (shE k b)
  | .tern pos c a b => .tern (pos + k) (shE k c) (shE k a) (shE k b)
  | .asg op x pos apos e => .asg op x (pos + k) (apos + k) (shE k e)
/-- The closing parenthesis behind. -/
def closeT (a : Nat) : Tok := ⟨[41], a, a + 1, 0, false, []⟩
def inT (k : Nat) (t : Tok) : Tok := if t.op = [] then closeT (t.pos + k) else shT k t

theorem skip_app (r Q : Bs) : skip (r ++ 41 :: Q) = skip r := by
  induction r with
  | nil => simp [skip]
  | cons c r ih =>
    show (if c = 32 ∨ c = 9 ∨ c = 10 then skip (r ++ 41 :: Q) + 1 else 0) = (if c = 32 ∨ c = 9 ∨ c = 10 then skip r + 1 else 0)
    rw [ih]
theorem digits_app (base : Nat) (hb : base ≤ 16) (r Q : Bs) : ∀ n k o, digitsGo base (r ++ 41 :: Q) n k o = digitsGo base r n k o := by
  have h41 : digit 41 = 16 := by decide
  induction r with
  | nil => intro n k o; simp [digitsGo, h41]; omega
  | cons c r ih =>
    intro n k o
    simp only [List.cons_append, digitsGo]
    split
    · split
      · exact ih _ _ _
      · exact ih _ _ _
    · rfl
theorem const_app (r Q : Bs) (hr : r ≠ []) : const (r ++ 41 :: Q) = const r := by
  cases r with
  | nil => exact absurd rfl hr
  | cons c r =>
    have e8 := fun r => digits_app 8 (by omega) r Q 0 0 false
    have e10 := fun r => digits_app 10 (by omega) r Q 0 0 false
    have e16 := fun r => digits_app 16 (by omega) r Q 0 0 false
    show const (c :: (r ++ 41 :: Q)) = const (c :: r)
    unfold const digits
    simp only [← List.cons_append, e8, e10]
    split
    · rfl
    · split
      · rfl
      · cases r with
        | nil => simp
        | cons d r' => simp only [List.cons_append, e16]
theorem nameGo_app (r Q : Bs) : ∀ i, nameGo (r ++ 41 :: Q) i = nameGo r i := by
  induction r with
  | nil =>
    intro i
    show (if (!letter 41 && (i == 0 || !isDig 41)) = true then i else nameGo Q (i + 1)) = i
    have h1 : letter 41 = false := by decide
    have h2 : isDig 41 = false := by decide
    simp [h1, h2]
  | cons c r ih => intro i; simp only [List.cons_append, nameGo, ih]
theorem name_app (r Q : Bs) : name (r ++ 41 :: Q) = name r := nameGo_app r Q 0
theorem nameGo_bd : ∀ (r : Bs) (i : Nat), nameGo r i ≤ i + r.length
  | [], i => by simp [nameGo]
  | c :: r, i => by
    rw [nameGo]
    split
    · omega
    · have := nameGo_bd r (i + 1); simp; omega
theorem name_bd (r : Bs) : name r ≤ r.length := by have := nameGo_bd r 0; simp at this; exact this
theorem pre_app (o r Q : Bs) (ho : 41 ∉ o) : o.isPrefixOf (r ++ 41 :: Q) = o.isPrefixOf r := by
  induction o generalizing r with
  | nil => simp
  | cons a o ih =>
    have h1 : a ≠ 41 := fun e => ho (by simp [e])
    have h2 : 41 ∉ o := fun e => ho (by simp [e])
    cases r with
    | nil => simp [List.isPrefixOf, h1]
    | cons c r => simp only [List.cons_append, List.isPrefixOf, ih r h2]
theorem pre_take (o l : Bs) (h : o.length ≤ 3) : o.isPrefixOf (l.take 3) = o.isPrefixOf l := by
  rw [Bool.eq_iff_iff, List.isPrefixOf_iff_prefix, List.isPrefixOf_iff_prefix, List.prefix_take_iff]
  exact ⟨fun a => a.1, fun a => ⟨a, h⟩⟩
theorem find_congr' {α : Type} (p q : α → Bool) : ∀ (l : List α), (∀ x ∈ l, p x = q x) → l.find? p = l.find? q
  | [], _ => rfl
  | x :: l, h => by
    rw [List.find?_cons, List.find?_cons, h x (by simp), find_congr' p q l fun y hy => h y (by simp [hy])]
theorem ops_app (r Q : Bs) (hr : r ≠ []) : ops.find? (fun o => o.isPrefixOf ((r ++ 41 :: Q).take 3)) = ops.find? (fun o => o.isPrefixOf (r.take 3)) := by
  refine find_congr' _ _ _ fun o ho => ?_
  have h3 : o.length ≤ 3 := (by decide : ∀ x ∈ ops, x.length ≤ 3) o ho
  rw [pre_take _ _ h3, pre_take _ _ h3]
  have h41 := (by decide : ∀ x ∈ ops, 41 ∉ x ∨ x = [41]) o ho
  rcases h41 with h | rfl
  · exact pre_app o r Q h
  · cases r with
    | nil => exact absurd rfl hr
    | cons c r => simp [List.isPrefixOf]
theorem ops_close (Q : Bs) : ops.find? (fun o => o.isPrefixOf ((41 :: Q).take 3)) = some [41] := by
  have h : ops.find? (fun o => o.isPrefixOf ((41 :: Q).take 3)) = ops.find? (fun o => o == [41]) := by
    refine find_congr' _ _ _ fun o ho => ?_
    have h3 : o.length ≤ 3 := (by decide : ∀ x ∈ ops, x.length ≤ 3) o ho
    rw [pre_take _ _ h3]
    have h41 := (by decide : ∀ x ∈ ops, (x.head? ≠ some 41 ∧ x ≠ []) ∨ x = [41]) o ho
    rcases h41 with ⟨h, hn⟩ | rfl
    · cases o with
      | nil => exact absurd rfl hn
      | cons a o =>
        have h1 : (a == 41) = false := by simpa using fun e => h (by simp [e])
        simp [List.isPrefixOf, h1]
    · simp [List.isPrefixOf]
  rw [h]; decide
/-- A token of b is the same one where b stands in a text with a parenthesis behind it. -/
theorem tokAt_in (r Q : Bs) (a k : Nat) : tokAt (r ++ 41 :: Q) (a + k) = if r = [] then closeT (a + k) else shT k (tokAt r a) := by
  by_cases hr : r = []
  · subst hr
    rw [if_pos rfl]
    have h1 : (const (41 :: Q)).2.1 = 0 := by
      unfold const; simp
    have h2 : name (41 :: Q) = 0 := by
      show (if (!letter 41 && (0 == 0 || !isDig 41)) = true then 0 else nameGo Q 1) = 0
      have h1 : letter 41 = false := by decide
      simp [h1]
    unfold tokAt
    simp only [List.nil_append]
    rw [if_neg (by simp), if_neg (by omega), if_neg (by omega), ops_close]
    rfl
  · rw [if_neg hr]
    unfold tokAt
    rw [if_neg (by simp), if_neg hr, const_app r Q hr, name_app, ops_app r Q hr]
    split
    · simp [shT]; omega
    · split
      · have := name_bd r
        simp [shT, List.take_append_of_le_length this]; omega
      · split
        · simp [shT]; omega
        · simp [shT]
theorem next_op_nil (b : Bs) (a : Nat) (ha : a ≤ b.length) : ((next b a).op = [] ↔ b.drop (a + skip (b.drop a)) = []) ∧ ((next b a).op = [] → (next b a).pos = a + skip (b.drop a)) := by
  unfold next tokAt
  split
  · rename_i h; simp [h]
  · rename_i h
    split
    · simp [h, wNum]
    · split
      · simp [h, wName]
      · split
        · rename_i o ho
          have := (by decide : ∀ x ∈ ops, x ≠ []) o (List.mem_of_find?_eq_some ho)
          simp [h, this]
        · simp [h, wNone]
theorem next_in (P b Q : Bs) (a : Nat) (ha : a ≤ b.length) : next (P ++ b ++ 41 :: Q) (a + P.length) = inT P.length (next b a) := by
  have hd : ∀ m, m ≤ b.length → (P ++ b ++ 41 :: Q).drop (m + P.length) = b.drop m ++ 41 :: Q := by
    intro m hm
    rw [List.append_assoc, Nat.add_comm, ← List.drop_drop, List.drop_left, List.drop_append_of_le_length hm]
  have hs : skip (b.drop a) ≤ (b.drop a).length := by
    generalize b.drop a = l
    induction l with
    | nil => simp [skip]
    | cons c l ih =>
      show (if c = 32 ∨ c = 9 ∨ c = 10 then skip l + 1 else 0) ≤ _
      split <;> simp <;> omega
  rw [List.length_drop] at hs
  obtain ⟨h1, h2⟩ := next_op_nil b a ha
  unfold inT
  unfold next at h1 h2 ⊢
  rw [hd a ha, skip_app, show a + P.length + skip (b.drop a) = a + skip (b.drop a) + P.length by omega, hd _ (by omega), tokAt_in]
  by_cases hr : b.drop (a + skip (b.drop a)) = []
  · rw [if_pos hr, if_pos (h1.2 hr), h2 (h1.2 hr)]
  · rw [if_neg hr, if_neg (fun h => hr (h1.1 h))]
end Go.Proofs.YtjllmamblkejjaaGreatDoor
end

/- Plain law: what a text reads as in parentheses within another; the values of the tree do not hang on places. No program in sight. No conditions. -/
section
set_option linter.unusedVariables false
set_option linter.unusedSimpArgs false
namespace Go.Proofs.YtjllmamblkejjaaGreatDoor
open Sp

def isName (x : Bs) : Prop := x ≠ [] ∧ name x = x.length
instance (x : Bs) : Decidable (isName x) := inferInstanceAs (Decidable (_ ∧ _))
theorem nameGo_ge : ∀ (l : Bs) (i : Nat), i ≤ nameGo l i
  | [], i => by simp [nameGo]
  | c :: l, i => by
    rw [nameGo]
    split
    · exact Nat.le_refl _
    · have := nameGo_ge l (i + 1); omega
theorem nameGo_take : ∀ (l : Bs) (i : Nat), nameGo (l.take (nameGo l i - i)) i = nameGo l i
  | [], i => by simp [nameGo]
  | c :: l, i => by
    by_cases h : (!letter c && (i == 0 || !isDig c)) = true
    · have e : nameGo (c :: l) i = i := by rw [nameGo, if_pos h]
      rw [e, Nat.sub_self, List.take_zero, nameGo]
    · have e : nameGo (c :: l) i = nameGo l (i + 1) := by rw [nameGo, if_neg h]
      have hg := nameGo_ge l (i + 1)
      rw [e, show nameGo l (i + 1) - i = (nameGo l (i + 1) - (i + 1)) + 1 by omega, List.take_succ_cons, nameGo, if_neg h]
      exact nameGo_take l (i + 1)
theorem isName_take (l : Bs) (h : 0 < name l) : isName (l.take (name l)) := by
  have h1 := nameGo_take l 0
  rw [Nat.sub_zero] at h1
  have hb := name_bd l
  have hl : (l.take (name l)).length = name l := by rw [List.length_take]; omega
  refine ⟨fun e => ?_, ?_⟩
  · rw [e] at hl; simp at hl; omega
  · rw [hl]; exact h1
theorem bind_ok {α β : Type} {r : Res α} {F : α → Tok → Res β} {e : β} {t : Tok} (h : r.bind F = .ok e t) : ∃ a t1, r = .ok a t1 ∧ F a t1 = .ok e t := by
  cases r with
  | ok a t1 => exact ⟨a, t1, rfl, h⟩
  | err c p => simp [Res.bind] at h
  | out => simp [Res.bind] at h
theorem digits_cnt (base : Nat) : ∀ (r : Bs) n k o, k ≤ (digitsGo base r n k o).2.1 ∧ (digitsGo base r n k o).2.1 ≤ k + r.length
  | [], n, k, o => by simp [digitsGo]
  | c :: r, n, k, o => by
    rw [digitsGo]
    split
    · split
      · have := digits_cnt base r maxI (k + 1) true; simp; omega
      · have := digits_cnt base r (n * base + digit c) (k + 1) false; simp; omega
    · simp
theorem const_cnt (r : Bs) : (const r).2.1 ≤ r.length := by
  have h := fun base r => (digits_cnt base r 0 0 false).2
  unfold const digits
  split
  · simp
  · rename_i c r
    split
    · simp
    · split
      · have := h 10 (c :: r); simpa using this
      · split
        · rename_i d r' 
          split
          · split
            · have := h 16 r'; simp at this ⊢; omega
            · have := h 8 (c :: d :: r'); simpa using this
          · have := h 8 (c :: d :: r'); simpa using this
        · have := h 8 [c]; simpa using this
theorem skip_cnt (l : Bs) : skip l ≤ l.length := by
  induction l with
  | nil => simp [skip]
  | cons c l ih =>
    show (if c = 32 ∨ c = 9 ∨ c = 10 then skip l + 1 else 0) ≤ _
    split <;> simp <;> omega
theorem next_fin (b : Bs) (a : Nat) (ha : a ≤ b.length) : (next b a).fin ≤ b.length ∧ (next b a).pos ≤ (next b a).fin ∧ a ≤ (next b a).pos := by
  have hs := skip_cnt (b.drop a)
  rw [List.length_drop] at hs
  unfold next
  generalize hm : a + skip (b.drop a) = m
  have hl : (b.drop m).length = b.length - m := List.length_drop
  have hc := const_cnt (b.drop m)
  have hn := name_bd (b.drop m)
  unfold tokAt
  split
  · simp; omega
  · split
    · simp; omega
    · split
      · simp; omega
      · split
        · rename_i o ho
          have h1 := List.find?_some ho
          have h3 : o.length ≤ 3 := (by decide : ∀ x ∈ ops, x.length ≤ 3) o (List.mem_of_find?_eq_some ho)
          rw [pre_take _ _ h3, List.isPrefixOf_iff_prefix] at h1
          have := h1.length_le
          simp; omega
        · simp; omega

/-- A token of b's. -/
def Tk (b : Bs) (t : Tok) : Prop := ∃ a, a ≤ b.length ∧ t = next b a
theorem Tk.fin {b : Bs} {t : Tok} (h : Tk b t) : t.fin ≤ b.length := by obtain ⟨a, ha, rfl⟩ := h; exact (next_fin b a ha).1
theorem Tk.next {b : Bs} {t : Tok} (h : Tk b t) : Tk b (Sp.next b t.fin) := ⟨_, h.fin, rfl⟩
theorem Tk.end_ {b : Bs} {t : Tok} (h : Tk b t) (ho : t.op = []) : t.pos = b.length := by
  obtain ⟨a, ha, rfl⟩ := h
  obtain ⟨h1, h2⟩ := next_op_nil b a ha
  have h3 := h1.1 ho
  have hs := skip_cnt (b.drop a)
  rw [List.length_drop] at hs
  have := congrArg List.length h3
  rw [List.length_drop] at this
  simp at this
  rw [h2 ho]; omega
theorem inT_sh {k : Nat} {t : Tok} (h : t.op ≠ []) : inT k t = shT k t := by unfold inT; rw [if_neg h]
theorem inT_op {k : Nat} {t : Tok} {o : Bs} (h : t.op ≠ []) : (inT k t).op = t.op := by rw [inT_sh h]; rfl
theorem inT_ne {k : Nat} {t : Tok} {o : Bs} (ho : o ≠ [41]) (h : t.op ≠ o) : (inT k t).op ≠ o := by
  unfold inT
  split
  · exact fun e => ho e.symm
  · exact h
theorem inT_strength (k : Nat) (t : Tok) : strength (inT k t).op = strength t.op := by
  unfold inT
  split
  · rename_i h; rw [h]; show strength [41] = strength []; decide
  · rfl
theorem inT_assigns (k : Nat) (t : Tok) : assigns (inT k t).op = assigns t.op := by
  unfold inT
  split
  · rename_i h; rw [h]; show assigns [41] = assigns []; decide
  · rfl
theorem drop_in (P b Q : Bs) (m : Nat) (hm : m ≤ b.length) : (P ++ b ++ 41 :: Q).drop (m + P.length) = b.drop m ++ 41 :: Q := by
  rw [List.append_assoc, Nat.add_comm, ← List.drop_drop, List.drop_left, List.drop_append_of_le_length hm]
theorem constant_in (P b Q : Bs) {t t' : Tok} {e : Ex} (hf : t.fin ≤ b.length) (h : constant b t = .ok e t') : constant (P ++ b ++ 41 :: Q) (shT P.length t) = .ok (shE P.length e) (inT P.length t') ∧ Tk b t' := by
  unfold constant at h ⊢
  have ho : (shT P.length t).over = t.over := rfl
  rw [ho]
  have hd : (P ++ b ++ 41 :: Q).drop (shT P.length t).fin = b.drop t.fin ++ 41 :: Q := drop_in P b Q t.fin hf
  have hx : next (P ++ b ++ 41 :: Q) (shT P.length t).fin = inT P.length (next b t.fin) := next_in P b Q t.fin hf
  rw [hd, hx]
  split at h
  · simp at h
  · rename_i hov
    rw [if_neg hov]
    cases hb : b.drop t.fin with
    | nil =>
      rw [hb] at h
      injection h with h1 h2
      subst h1 h2
      have h1 : letter 41 = false := by decide
      have h2 : isDig 41 = false := by decide
      have hn : name (41 :: Q) = 0 := by
        show (if (!letter 41 && (0 == 0 || !isDig 41)) = true then 0 else nameGo Q 1) = 0
        simp [h1]
      refine ⟨?_, ⟨_, hf, rfl⟩⟩
      simp only [List.nil_append]
      rw [if_neg (by rw [hn, h2]; simp)]
      rfl
    | cons c cs =>
      rw [hb] at h
      simp only at h
      split at h
      · simp at h
      · rename_i hc
        injection h with h1 h2
        subst h1 h2
        refine ⟨?_, ⟨_, hf, rfl⟩⟩
        simp only [List.cons_append]
        rw [if_neg (by rw [← List.cons_append, name_app]; exact hc)]
        rfl
structure EmbAt (P b Q : Bs) (f : Nat) : Prop where
  expr : ∀ t e t', Tk b t → Sp.expr b f t = .ok e t' → Sp.expr (P ++ b ++ 41 :: Q) f (inT P.length t) = .ok (shE P.length e) (inT P.length t') ∧ Tk b t'
  cond : ∀ t e t', Tk b t → Sp.cond b f t = .ok e t' → Sp.cond (P ++ b ++ 41 :: Q) f (inT P.length t) = .ok (shE P.length e) (inT P.length t') ∧ Tk b t'
  bin : ∀ l t e t', Tk b t → Sp.bin b f l t = .ok e t' → Sp.bin (P ++ b ++ 41 :: Q) f l (inT P.length t) = .ok (shE P.length e) (inT P.length t') ∧ Tk b t'
  loop : ∀ l x t e t', Tk b t → Sp.loop b f l x t = .ok e t' → Sp.loop (P ++ b ++ 41 :: Q) f l (shE P.length x) (inT P.length t) = .ok (shE P.length e) (inT P.length t') ∧ Tk b t'
  operand : ∀ t e t', Tk b t → Sp.operand b f t = .ok e t' → Sp.operand (P ++ b ++ 41 :: Q) f (inT P.length t) = .ok (shE P.length e) (inT P.length t') ∧ Tk b t'
theorem emb_all (P b Q : Bs) : ∀ f, EmbAt P b Q f := by
  have hx : ∀ t : Tok, Tk b t → next (P ++ b ++ 41 :: Q) (shT P.length t).fin = inT P.length (next b t.fin) := fun t hf => next_in P b Q t.fin hf.fin
  have hnf : ∀ t : Tok, Tk b t → Tk b (next b t.fin) := fun t h => h.next
  intro f
  induction f with
  | zero => exact ⟨fun t e t' _ h => by simp [Sp.expr] at h, fun t e t' _ h => by simp [Sp.cond] at h, fun l t e t' _ h => by simp [Sp.bin] at h, fun l x t e t' _ h => by simp [Sp.loop] at h, fun t e t' _ h => by simp [Sp.operand] at h⟩
  | succ f ih =>
    refine ⟨fun t e t' hf h => ?_, fun t e t' hf h => ?_, fun l t e t' hf h => ?_, fun l x t e t' hf h => ?_, fun t e t' hf h => ?_⟩
    · rw [Sp.expr] at h ⊢
      by_cases ht : t.op = []
      · have hn : ¬ t.op = wName := by rw [ht]; decide
        rw [if_neg (fun a => hn a.1)] at h
        have hn2 : ¬ (inT P.length t).op = wName := inT_ne (by decide) hn
        rw [if_neg (fun a => hn2 a.1)]
        exact ih.cond t e t' hf h
      · rw [inT_sh ht, hx t hf, inT_assigns]
        have hso : (shT P.length t).op = t.op := rfl
        rw [hso]
        by_cases hc : t.op = wName ∧ assigns (next b t.fin).op = true
        · rw [if_pos hc] at h ⊢
          obtain ⟨a, t1, h1, h2⟩ := bind_ok h
          injection h2 with h3 h4
          subst h3 h4
          have hop : (next b t.fin).op ≠ [] := fun e => by have := hc.2; rw [e] at this; exact absurd this (by decide)
          rw [inT_sh hop, hx _ (hnf _ hf)]
          obtain ⟨k1, k2⟩ := ih.expr _ _ _ (hnf _ (hnf _ hf)) h1
          rw [k1]
          exact ⟨rfl, k2⟩
        · rw [if_neg hc] at h ⊢
          rw [← inT_sh ht]
          exact ih.cond t e t' hf h
    · rw [Sp.cond] at h ⊢
      obtain ⟨a, t1, h1, h2⟩ := bind_ok h
      obtain ⟨k1, k2⟩ := ih.bin 0 t a t1 hf h1
      rw [k1]
      show (if (inT P.length t1).op = [63] then _ else _) = _ ∧ _
      by_cases hq : t1.op = [63]
      · have hq0 : t1.op ≠ [] := by rw [hq]; decide
        rw [if_pos hq] at h2
        rw [inT_sh hq0, if_pos (show (shT P.length t1).op = [63] from hq), hx t1 k2]
        obtain ⟨a2, t2, h3, h4⟩ := bind_ok h2
        obtain ⟨k3, k4⟩ := ih.expr _ _ _ (hnf _ k2) h3
        rw [k3]
        by_cases hc : t2.op = [58]
        · have hc0 : t2.op ≠ [] := by rw [hc]; decide
          rw [if_pos hc] at h4
          obtain ⟨a3, t3, h5, h6⟩ := bind_ok h4
          injection h6 with h7 h8
          subst h7 h8
          obtain ⟨k5, k6⟩ := ih.cond _ _ _ (hnf _ k4) h5
          show (if (inT P.length t2).op = [58] then _ else _) = _ ∧ _
          rw [inT_sh hc0, if_pos (show (shT P.length t2).op = [58] from hc), hx t2 k4, k5]
          exact ⟨rfl, k6⟩
        · rw [if_neg hc] at h4; simp [bar] at h4
      · rw [if_neg hq] at h2
        injection h2 with h3 h4
        subst h3 h4
        rw [if_neg (inT_ne (by decide) hq)]
        exact ⟨rfl, k2⟩
    · rw [Sp.bin] at h ⊢
      obtain ⟨a, t1, h1, h2⟩ := bind_ok h
      obtain ⟨k1, k2⟩ := ih.operand t a t1 hf h1
      rw [k1]
      exact ih.loop l a t1 e t' k2 h2
    · rw [Sp.loop] at h ⊢
      rw [inT_strength]
      by_cases hs : strength t.op < l + 1
      · rw [if_pos hs] at h ⊢
        injection h with h1 h2
        subst h1 h2
        exact ⟨rfl, hf⟩
      · rw [if_neg hs] at h ⊢
        have ht : t.op ≠ [] := fun e => hs (by rw [e]; exact Nat.succ_pos _)
        obtain ⟨a, t1, h1, h2⟩ := bind_ok h
        obtain ⟨k1, k2⟩ := ih.bin _ _ a t1 (hnf _ hf) h1
        rw [inT_sh ht, hx t hf, k1]
        exact ih.loop l (.bin t.op t.pos x a) t1 e t' k2 h2
    · rw [Sp.operand] at h
      by_cases ht : t.op = []
      · rw [if_neg (by rw [ht]; decide), if_neg (by rw [ht]; decide), if_neg (by rw [ht]; decide), if_neg (by rw [ht]; decide), if_neg (by rw [ht]; decide)] at h
        simp [bar] at h
      · rw [Sp.operand, inT_sh ht, hx t hf]
        have hso : (shT P.length t).op = t.op := rfl
        rw [hso]
        by_cases h1 : t.op = [43] ∨ t.op = [45]
        · rw [if_pos h1] at h ⊢
          obtain ⟨a, t1, h2, h3⟩ := bind_ok h
          injection h3 with h4 h5
          subst h4 h5
          obtain ⟨k1, k2⟩ := ih.operand _ _ _ (hnf _ hf) h2
          rw [k1]
          exact ⟨rfl, k2⟩
        rw [if_neg h1] at h ⊢
        by_cases h1 : t.op = [33] ∨ t.op = [126]
        · rw [if_pos h1] at h ⊢
          obtain ⟨a, t1, h2, h3⟩ := bind_ok h
          injection h3 with h4 h5
          subst h4 h5
          obtain ⟨k1, k2⟩ := ih.operand _ _ _ (hnf _ hf) h2
          rw [k1]
          exact ⟨rfl, k2⟩
        rw [if_neg h1] at h ⊢
        by_cases h1 : t.op = wNum
        · rw [if_pos h1] at h ⊢
          exact constant_in P b Q hf.fin h
        rw [if_neg h1] at h ⊢
        by_cases h1 : t.op = wName
        · rw [if_pos h1] at h ⊢
          injection h with h4 h5
          subst h4 h5
          exact ⟨rfl, hnf _ hf⟩
        rw [if_neg h1] at h ⊢
        by_cases h1 : t.op = [40]
        · rw [if_pos h1] at h ⊢
          obtain ⟨a, t1, h2, h3⟩ := bind_ok h
          obtain ⟨k1, k2⟩ := ih.expr _ _ _ (hnf _ hf) h2
          rw [k1]
          by_cases hc : t1.op = [41]
          · rw [if_pos hc] at h3
            injection h3 with h4 h5
            subst h4 h5
            have hc0 : t1.op ≠ [] := by rw [hc]; decide
            show (if (inT P.length t1).op = [41] then _ else _) = _ ∧ _
            rw [inT_sh hc0, if_pos (show (shT P.length t1).op = [41] from hc), hx t1 k2]
            exact ⟨rfl, hnf _ k2⟩
          · rw [if_neg hc] at h3; simp [bar] at h3
        rw [if_neg h1] at h
        simp [bar] at h

/-- A text that reads as e reads so in parentheses: between P and Q. -/
theorem parens_get (P b Q : Bs) {f : Nat} {e : Ex} {t : Tok} (h : parse b f = .ok e t) {t0 : Tok} (h0 : t0.op = [40]) (hp : t0.fin = P.length) :
    Gets (operand (P ++ b ++ 41 :: Q) · t0) (shE P.length e) (next (P ++ b ++ 41 :: Q) (P.length + b.length + 1)) := by
  obtain ⟨hto, hx⟩ := parse_inv h
  obtain ⟨k1, k2⟩ := (emb_all P b Q f).expr _ _ _ ⟨0, Nat.zero_le _, rfl⟩ hx
  have hn : next (P ++ b ++ 41 :: Q) t0.fin = inT P.length (next b 0) := by
    rw [hp]; have := next_in P b Q 0 (Nat.zero_le _); simpa using this
  have g := gets_expr k1
  rw [← hn] at g
  have hc : inT P.length t = closeT (t.pos + P.length) := by unfold inT; rw [if_pos hto]
  have hpos : t.pos = b.length := k2.end_ hto
  have := g_operand_par h0 g (by rw [hc]; rfl)
  rw [hc] at this
  rw [show P.length + b.length + 1 = (closeT (t.pos + P.length)).fin by simp [closeT, hpos]; omega]
  exact this

/-! ### values and places -/
def shV (k : Nat) : Val → Val
  | .ok x s => .ok x s
  | .err c p => .err c (p + k)
theorem shV_bind (k : Nat) (r : Val) (F G : Int → Vs → Val) (h : ∀ x s, G x s = shV k (F x s)) : (shV k r).bind G = shV k (r.bind F) := by
  cases r with
  | ok x s => exact h x s
  | err c p => rfl
theorem ev_sh (M : Mach) (k : Nat) (e : Ex) : ∀ s, ev M (shE k e) s = shV k (ev M e s) := by
  induction e with
  | num n pos => intro s; rfl
  | name x pos => intro s; show num1 M s x (pos + k) = shV k (num1 M s x pos); unfold num1; split <;> rfl
  | un op pos e ih => intro s; simp only [shE, ev]; rw [ih]; exact shV_bind k _ _ _ fun _ _ => rfl
  | bin op pos a b iha ihb =>
    intro s
    simp only [shE, ev]
    split
    · rw [iha]
      refine shV_bind k _ _ _ fun x s => ?_
      split
      · rfl
      · rw [ihb]; exact shV_bind k _ _ _ fun _ _ => rfl
    · split
      · rw [iha]
        refine shV_bind k _ _ _ fun x s => ?_
        split
        · rw [ihb]; exact shV_bind k _ _ _ fun _ _ => rfl
        · rfl
      · rw [iha]
        refine shV_bind k _ _ _ fun x s => ?_
        rw [ihb]
        refine shV_bind k _ _ _ fun y s => ?_
        unfold two1; split <;> rfl
  | tern pos c a b ihc iha ihb =>
    intro s
    simp only [shE, ev]
    rw [ihc]
    refine shV_bind k _ _ _ fun x s => ?_
    split
    · exact ihb s
    · exact iha s
  | asg op x pos apos e ih =>
    intro s
    simp only [shE, ev]
    split
    · rw [ih]; exact shV_bind k _ _ _ fun _ _ => rfl
    · have h1 : num1 M s x (pos + k) = shV k (num1 M s x pos) := by unfold num1; split <;> rfl
      rw [h1]
      refine shV_bind k _ _ _ fun v s => ?_
      rw [ih]
      refine shV_bind k _ _ _ fun y s => ?_
      have h2 : two1 M op.dropLast (apos + k) v y s = shV k (two1 M op.dropLast apos v y s) := by unfold two1; split <;> rfl
      rw [h2]
      exact shV_bind k _ _ _ fun _ _ => rfl
end Go.Proofs.YtjllmamblkejjaaGreatDoor
end

/- Plain law: how great a tree is that a text reads as; what its code holds. No program in sight. No conditions. -/
section
set_option linter.unusedVariables false
set_option linter.unusedSimpArgs false
namespace Go.Proofs.YtjllmamblkejjaaGreatDoor
open Sp

/-- No name is longer than n. -/
def Nm (n : Nat) : Ex → Prop
  | .num .. => True
  | .name x _ => x.length ≤ n
  | .un _ _ e => Nm n e
  | .bin _ _ a b => Nm n a ∧ Nm n b
  | .tern _ c a b => Nm n c ∧ Nm n a ∧ Nm n b
  | .asg _ x _ _ e => x.length ≤ n ∧ isName x ∧ Nm n e
theorem next_more (b : Bs) (a : Nat) : (next b a).name.length ≤ b.length ∧ ((next b a).op = wName → isName (next b a).name) ∧ ((next b a).op ≠ [] → (next b a).op ≠ wNone → (next b a).pos + 1 ≤ (next b a).fin) := by
  unfold next
  generalize hm : a + skip (b.drop a) = m
  have hl : (b.drop m).length = b.length - m := List.length_drop
  unfold tokAt
  split
  · exact ⟨Nat.zero_le _, fun h => absurd (show ([] : Bs) = wName from h) (by decide), fun h => absurd rfl h⟩
  · split
    · exact ⟨Nat.zero_le _, fun h => absurd (show wNum = wName from h) (by decide), fun _ _ => by simp only; omega⟩
    · split
      · rename_i hn
        refine ⟨?_, fun _ => isName_take _ hn, fun _ _ => by simp only; omega⟩
        simp only [List.length_take]; omega
      · split
        · rename_i o ho
          have h1 : 1 ≤ o.length := (by decide : ∀ x ∈ ops, 1 ≤ x.length) o (List.mem_of_find?_eq_some ho)
          have h2 : o ≠ wName := (by decide : ∀ x ∈ ops, x ≠ wName) o (List.mem_of_find?_eq_some ho)
          exact ⟨Nat.zero_le _, fun h => absurd h h2, fun _ _ => by simp only; omega⟩
        · exact ⟨Nat.zero_le _, fun h => absurd (show wNone = wName from h) (by decide), fun _ h => absurd rfl h⟩
theorem Tk.name {b : Bs} {t : Tok} (h : Tk b t) : t.name.length ≤ b.length := by obtain ⟨a, ha, rfl⟩ := h; exact (next_more b a).1
theorem Tk.real {b : Bs} {t : Tok} (h : Tk b t) (h1 : t.op ≠ []) (h2 : t.op ≠ wNone) : t.pos + 1 ≤ t.fin := by obtain ⟨a, ha, rfl⟩ := h; exact (next_more b a).2.2 h1 h2
theorem Tk.isName {b : Bs} {t : Tok} (h : Tk b t) (h1 : t.op = wName) : Go.Proofs.YtjllmamblkejjaaGreatDoor.isName t.name := by obtain ⟨a, ha, rfl⟩ := h; exact (next_more b a).2.1 h1
theorem Tk.next_pos {b : Bs} {t : Tok} (h : Tk b t) : t.fin ≤ (Sp.next b t.fin).pos := (next_fin b t.fin h.fin).2.2
structure SzR (b : Bs) (e : Ex) (t' : Tok) (from_ : Nat) : Prop where
  nm : Nm b.length e
  tk : Tk b t'
  sz : sz e + from_ ≤ t'.pos
theorem strength_op {op : Bs} (h : 0 < strength op) : op ≠ [] ∧ op ≠ wNone := by
  constructor <;> (intro e; rw [e] at h; exact absurd h (by decide))
theorem constant_sz (b : Bs) {t t' : Tok} {e : Ex} (ht : Tk b t) (ho : t.op = wNum) (h : constant b t = .ok e t') : SzR b e t' t.pos := by
  have hr := ht.real (by rw [ho]; decide) (by rw [ho]; decide)
  have hp := ht.next_pos
  have hk : ∀ e t', Res.ok (.num t.num t.pos) (Sp.next b t.fin) = Res.ok e t' → SzR b e t' t.pos := by
    intro e t' h
    injection h with h1 h2
    subst h1 h2
    exact ⟨trivial, ht.next, by simp only [sz]; omega⟩
  unfold constant at h
  split at h
  · simp at h
  · split at h
    · exact hk e t' h
    · split at h
      · simp at h
      · exact hk e t' h
structure SzAt (b : Bs) (f : Nat) : Prop where
  expr : ∀ t e t', Tk b t → Sp.expr b f t = .ok e t' → SzR b e t' t.pos
  cond : ∀ t e t', Tk b t → Sp.cond b f t = .ok e t' → SzR b e t' t.pos
  bin : ∀ l t e t', Tk b t → Sp.bin b f l t = .ok e t' → SzR b e t' t.pos
  loop : ∀ l x t e t', Nm b.length x → Tk b t → Sp.loop b f l x t = .ok e t' → Nm b.length e ∧ Tk b t' ∧ Go.Proofs.YtjllmamblkejjaaGreatDoor.sz e + t.pos ≤ t'.pos + Go.Proofs.YtjllmamblkejjaaGreatDoor.sz x
  operand : ∀ t e t', Tk b t → Sp.operand b f t = .ok e t' → SzR b e t' t.pos
theorem sz_all (b : Bs) : ∀ f, SzAt b f := by
  intro f
  induction f with
  | zero => exact ⟨fun t e t' _ h => by simp [Sp.expr] at h, fun t e t' _ h => by simp [Sp.cond] at h, fun l t e t' _ h => by simp [Sp.bin] at h, fun l x t e t' _ _ h => by simp [Sp.loop] at h, fun t e t' _ h => by simp [Sp.operand] at h⟩
  | succ f ih =>
    refine ⟨fun t e t' ht h => ?_, fun t e t' ht h => ?_, fun l t e t' ht h => ?_, fun l x t e t' hx ht h => ?_, fun t e t' ht h => ?_⟩
    · rw [Sp.expr] at h
      split at h
      · rename_i hc
        obtain ⟨a, t1, h1, h2⟩ := bind_ok h
        injection h2 with h3 h4
        subst h3 h4
        have k := ih.expr _ _ _ ht.next.next h1
        have r1 := ht.real (by rw [hc.1]; decide) (by rw [hc.1]; decide)
        have r2 := ht.next_pos
        have r3 := ht.next.next_pos
        have r4 := (next_fin b t.fin ht.fin).2.1
        refine ⟨⟨ht.name, ht.isName hc.1, k.nm⟩, k.tk, ?_⟩
        have := k.sz
        simp only [sz]; omega
      · exact ih.cond t e t' ht h
    · rw [Sp.cond] at h
      obtain ⟨a, t1, h1, h2⟩ := bind_ok h
      have k := ih.bin 0 t a t1 ht h1
      split at h2
      · rename_i hq
        obtain ⟨a2, t2, h3, h4⟩ := bind_ok h2
        have k2 := ih.expr _ _ _ k.tk.next h3
        split at h4
        · rename_i hc
          obtain ⟨a3, t3, h5, h6⟩ := bind_ok h4
          injection h6 with h7 h8
          subst h7 h8
          have k3 := ih.cond _ _ _ k2.tk.next h5
          have r1 := k.tk.real (by rw [hq]; decide) (by rw [hq]; decide)
          have r2 := k.tk.next_pos
          have r3 := k2.tk.real (by rw [hc]; decide) (by rw [hc]; decide)
          have r4 := k2.tk.next_pos
          refine ⟨⟨k.nm, k2.nm, k3.nm⟩, k3.tk, ?_⟩
          have := k.sz; have := k2.sz; have := k3.sz
          simp only [sz]; omega
        · simp [bar] at h4
      · injection h2 with h3 h4
        subst h3 h4
        exact k
    · rw [Sp.bin] at h
      obtain ⟨a, t1, h1, h2⟩ := bind_ok h
      have k := ih.operand t a t1 ht h1
      obtain ⟨p1, p2, p3⟩ := ih.loop l a t1 e t' k.nm k.tk h2
      have := k.sz
      exact ⟨p1, p2, by omega⟩
    · rw [Sp.loop] at h
      split at h
      · injection h with h1 h2
        subst h1 h2
        exact ⟨hx, ht, by omega⟩
      · rename_i hs
        obtain ⟨a, t1, h1, h2⟩ := bind_ok h
        have k := ih.bin _ _ a t1 ht.next h1
        have hop := strength_op (op := t.op) (by omega)
        have r1 := ht.real hop.1 hop.2
        have r2 := ht.next_pos
        obtain ⟨p1, p2, p3⟩ := ih.loop l (.bin t.op t.pos x a) t1 e t' ⟨hx, k.nm⟩ k.tk h2
        have := k.sz
        simp only [sz] at p3
        exact ⟨p1, p2, by omega⟩
    · rw [Sp.operand] at h
      split at h
      · rename_i hc
        obtain ⟨a, t1, h1, h2⟩ := bind_ok h
        injection h2 with h3 h4
        subst h3 h4
        have k := ih.operand _ _ _ ht.next h1
        have r1 := ht.real (by rcases hc with h | h <;> rw [h] <;> decide) (by rcases hc with h | h <;> rw [h] <;> decide)
        have r2 := ht.next_pos
        have := k.sz
        exact ⟨k.nm, k.tk, by simp only [sz]; omega⟩
      · split at h
        · rename_i hc
          obtain ⟨a, t1, h1, h2⟩ := bind_ok h
          injection h2 with h3 h4
          subst h3 h4
          have k := ih.operand _ _ _ ht.next h1
          have r1 := ht.real (by rcases hc with h | h <;> rw [h] <;> decide) (by rcases hc with h | h <;> rw [h] <;> decide)
          have r2 := ht.next_pos
          have := k.sz
          exact ⟨k.nm, k.tk, by simp only [sz]; omega⟩
        · split at h
          · rename_i hc
            exact constant_sz b ht hc h
          · split at h
            · rename_i hc
              injection h with h3 h4
              subst h3 h4
              have r1 := ht.real (by rw [hc]; decide) (by rw [hc]; decide)
              have r2 := ht.next_pos
              exact ⟨ht.name, ht.next, by simp only [sz]; omega⟩
            · split at h
              · rename_i hc
                obtain ⟨a, t1, h1, h2⟩ := bind_ok h
                have k := ih.expr _ _ _ ht.next h1
                split at h2
                · rename_i hc2
                  injection h2 with h3 h4
                  subst h3 h4
                  have r1 := ht.real (by rw [hc]; decide) (by rw [hc]; decide)
                  have r2 := ht.next_pos
                  have r3 := k.tk.real (by rw [hc2]; decide) (by rw [hc2]; decide)
                  have r4 := k.tk.next_pos
                  have := k.sz
                  exact ⟨k.nm, k.tk.next, by omega⟩
                · simp [bar] at h2
              · simp [bar] at h
theorem parse_sz {b : Bs} {f : Nat} {e : Ex} {t : Tok} (h : parse b f = .ok e t) : Nm b.length e ∧ sz e ≤ b.length := by
  obtain ⟨ho, hx⟩ := parse_inv h
  have k := (sz_all b f).expr _ _ _ ⟨0, Nat.zero_le _, rfl⟩ hx
  have := k.tk.end_ ho
  have := k.sz
  exact ⟨k.nm, by omega⟩

/-! ### what the code holds -/
theorem mem_patch {l : List I} {a : Nat} {i : I} (h : i ∈ patch l a) : i ∈ l ∨ ∃ j ∈ l, i = { j with dest := l.length } := by
  obtain ⟨n, hn⟩ := List.getElem?_of_mem h
  by_cases e : n = a
  · subst e
    cases hl : l[n]? with
    | none =>
      rw [List.getElem?_eq_none_iff] at hl
      have := (List.getElem?_eq_some_iff.1 hn).1
      rw [patch_len] at this
      omega
    | some j =>
      rw [get_patch_eq hl] at hn
      injection hn with hn
      exact .inr ⟨j, List.mem_of_getElem? hl, hn.symm⟩
  · rw [get_patch_ne e] at hn
    exact .inl (List.mem_of_getElem? hn)
structure IOk (n B : Nat) (i : I) : Prop where
  name : i.name.length ≤ n
  valid : i.op = 2 → isName i.name
  lo : 0 ≤ i.n
  hi : i.n ≤ 9223372036854775807
  dest : i.dest ≤ B
def AllOk (n B : Nat) (l : List I) : Prop := ∀ i ∈ l, IOk n B i
theorem AllOk.snoc {n B : Nat} {l : List I} {i : I} (h : AllOk n B l) (hi : IOk n B i) : AllOk n B (l ++ [i]) := by
  intro j hj
  rcases List.mem_append.1 hj with hj | hj
  · exact h j hj
  · rw [List.mem_singleton.1 hj]; exact hi
theorem AllOk.patch {n B : Nat} {l : List I} (h : AllOk n B l) (a : Nat) (hl : l.length ≤ B) : AllOk n B (patch l a) := by
  intro i hi
  rcases mem_patch hi with hi | ⟨j, hj, rfl⟩
  · exact h i hi
  · exact ⟨(h j hj).name, (h j hj).valid, (h j hj).lo, (h j hj).hi, hl⟩
theorem iok {n B op : Nat} (v : Int) (h0 : 0 ≤ v) (h1 : v ≤ 9223372036854775807) (x y : Bs) (pos : Nat) (hx : x.length ≤ n) (hv : op = 2 → isName x) : IOk n B ⟨op, v, x, y, pos, 0⟩ := ⟨hx, hv, h0, h1, Nat.zero_le _⟩
/-- The numbers in a tree. -/
def Nums : Ex → Prop
  | .num n _ => n ≤ maxI
  | .name .. => True
  | .un _ _ e => Nums e
  | .bin _ _ a b => Nums a ∧ Nums b
  | .tern _ c a b => Nums c ∧ Nums a ∧ Nums b
  | .asg _ _ _ _ e => Nums e
theorem put_ok (n B : Nat) (ex : Ex) : Nm n ex → Nums ex → ∀ l : List I, (put l ex).length ≤ B → AllOk n B l → AllOk n B (put l ex) := by
  induction ex with
  | num v pos => intro _ h l _ hl; rw [put]; exact hl.snoc (iok v (by omega) (by have : v ≤ maxI := h; unfold maxI at this; omega) _ _ _ (Nat.zero_le _) (fun h => absurd h (by decide)))
  | name x pos => intro h _ l _ hl; rw [put]; exact hl.snoc (iok 0 (by omega) (by omega) _ _ _ h (fun h => absurd h (by decide)))
  | un op pos e ih => intro h k l hB hl; rw [put] at hB ⊢; simp only [List.length_append, List.length_cons, List.length_nil] at hB; exact (ih h k l (by omega) hl).snoc (iok 0 (by omega) (by omega) _ _ _ (Nat.zero_le _) (fun h => absurd h (by decide)))
  | bin op pos a b iha ihb =>
    intro h k l hB hl
    have z : ∀ op : Nat, op ≠ 2 → IOk n B (J op 0) := fun op ho => iok 0 (by omega) (by omega) [] [] 0 (Nat.zero_le _) (fun h => absurd h ho)
    have z1 : IOk n B (J 0 1) := iok 1 (by omega) (by omega) [] [] 0 (Nat.zero_le _) (fun h => absurd h (by decide))
    rw [put] at hB ⊢
    split
    · rename_i e1
      rw [if_pos e1] at hB
      have h2 := put_len b (put l a ++ [J 8 0])
      simp only [patch_len, List.length_append, List.length_cons, List.length_nil] at hB h2
      have k1 := iha h.1 k.1 l (by omega) hl
      have k2 := ihb h.2 k.2 _ (by omega) (k1.snoc (z 8 (by decide)))
      exact (((((k2.snoc (z 5 (by decide))).snoc (z 7 (by decide))).patch _ (by simp only [List.length_append, List.length_cons, List.length_nil]; omega)).snoc (z 0 (by decide))).patch _ (by simp only [patch_len, List.length_append, List.length_cons, List.length_nil]; omega))
    · rename_i e1
      rw [if_neg e1] at hB
      split
      · rename_i e2
        rw [if_pos e2] at hB
        have h2 := put_len b (patch (put l a ++ [J 8 0] ++ [J 0 1] ++ [J 7 0]) (put l a).length)
        simp only [patch_len, List.length_append, List.length_cons, List.length_nil] at hB h2
        have k1 := iha h.1 k.1 l (by omega) hl
        have k2 := ihb h.2 k.2 _ (by omega) ((((k1.snoc (z 8 (by decide))).snoc z1).snoc (z 7 (by decide))).patch (put l a).length (by simp only [List.length_append, List.length_cons, List.length_nil]; omega))
        exact ((k2.snoc (z 5 (by decide))).patch _ (by simp only [List.length_append, List.length_cons, List.length_nil]; omega))
      · rename_i e2
        rw [if_neg e2] at hB
        have h2 := put_len b (put l a)
        simp only [List.length_append, List.length_cons, List.length_nil] at hB
        have k1 := iha h.1 k.1 l (by omega) hl
        exact (ihb h.2 k.2 _ (by omega) k1).snoc (iok 0 (by omega) (by omega) _ _ _ (Nat.zero_le _) (fun h => absurd h (by decide)))
  | tern pos c a b ihc iha ihb =>
    intro h k l hB hl
    have z : ∀ op : Nat, op ≠ 2 → IOk n B (J op 0) := fun op ho => iok 0 (by omega) (by omega) [] [] 0 (Nat.zero_le _) (fun h => absurd h ho)
    have z1 : IOk n B (J 0 1) := iok 1 (by omega) (by omega) [] [] 0 (Nat.zero_le _) (fun h => absurd h (by decide))
    rw [put] at hB ⊢
    have h2 := put_len a (put l c ++ [J 8 0])
    have h3 := put_len b (patch (put (put l c ++ [J 8 0]) a ++ [J 7 0]) (put l c).length)
    simp only [patch_len, List.length_append, List.length_cons, List.length_nil] at hB h2 h3
    have k1 := ihc h.1 k.1 l (by omega) hl
    have k2 := iha h.2.1 k.2.1 _ (by omega) (k1.snoc (z 8 (by decide)))
    have k3 := ihb h.2.2 k.2.2 _ (by omega) ((k2.snoc (z 7 (by decide))).patch (put l c).length (by simp only [List.length_append, List.length_cons, List.length_nil]; omega))
    exact k3.patch _ (by omega)
  | asg op x pos apos e ih =>
    intro h k l hB hl
    rw [put] at hB ⊢
    split
    · rename_i e1
      rw [if_pos e1] at hB
      simp only [List.length_append, List.length_cons, List.length_nil] at hB
      exact (ih h.2.2 k l (by omega) hl).snoc (iok 0 (by omega) (by omega) _ _ _ h.1 (fun _ => h.2.1))
    · rename_i e1
      rw [if_neg e1] at hB
      simp only [List.length_append, List.length_cons, List.length_nil] at hB
      exact ((ih h.2.2 k _ (by omega) (hl.snoc (iok 0 (by omega) (by omega) _ _ _ h.1 (fun h => absurd h (by decide))))).snoc (iok 0 (by omega) (by omega) _ _ _ (Nat.zero_le _) (fun h => absurd h (by decide)))).snoc (iok 0 (by omega) (by omega) _ _ _ h.1 (fun _ => h.2.1))
end Go.Proofs.YtjllmamblkejjaaGreatDoor
end
