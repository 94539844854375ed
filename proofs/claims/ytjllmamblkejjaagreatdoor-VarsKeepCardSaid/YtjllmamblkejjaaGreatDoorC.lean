/- A part of the proof: texts of ours, joined by a program, each in a section of its own; what each proves, and under what conditions, stands ahead of it. -/
import Derived.Test.YtjllmamblkejjaaGreatDoorCP
import Derived.Shelf.SlMaps.Clone
import Derived.Ground.SlmcProg
import Derived.Shelf.SlIter.Nil
import Derived.Shelf.SortM.Plain
import Derived.Shelf.SortM.SortNone
import Derived.Ground.GgzProg
import Derived.Ground.SlgmProg
import Derived.Test.YtjllmamblkejjaaGreatDoorProg
import Derived.Deep.LoopGhost
import Derived.Deep.RegionLaw
import Derived.Deep.AppendLies
import Derived.Laws.OwnMore
import Derived.Carry
import Derived.ChangeOld
import Derived.ChangeMaps5

/- The document's IsName: a name, from end to end. Conditions: a text of at most 2^47 bytes. -/
section
set_option linter.unusedVariables false
set_option linter.unusedSimpArgs false
namespace Go.Proofs.YtjllmamblkejjaaGreatDoor
open Go.RowKit Go.Proofs.YtjllmamblkejjaaGreatDoorW.PrintWords Go.Proofs.YtjllmamblkejjaaGreatDoorW.PrintLast Go.Proofs.YtjllmamblkejjaaGreatDoorW.PrintMore
open Sp

theorem ref_letter (c : UInt8) : PQC.pidginref2_Letter.f (c.toNat : Int) = some (letter c) := by
  rw [letter_dec]
  unfold PQC.pidginref2_Letter.f
  repeat' split
  all_goals congr 1
  all_goals rw [Bool.eq_iff_iff]
  all_goals simp only [beq_iff_eq, decide_eq_true_eq, true_iff]
  all_goals omega
theorem ref_part (c : UInt8) : PQC.pidginref2_Part.f (c.toNat : Int) = some (letter c || isDig c) := by
  unfold PQC.pidginref2_Part.f
  rw [ref_letter, isDig_dec]
  simp only [Option.bind_some]
  cases letter c
  · simp only [Bool.false_eq_true, if_false, Bool.false_or]
    split
    · congr 1; rw [Bool.eq_iff_iff]; simp only [decide_eq_true_eq]; omega
    · congr 1; symm; simp only [decide_eq_false_iff_not]; omega
  · rfl
theorem ref_name_loop (b : Bs) (hb : b.length ≤ 4611686018427387904) : ∀ (cs front : Bs) (k : Nat), b = front ++ cs → cs.length < k → PQC.pidginref2_Name.l0 k (ints b) (front.length : Int) = some (nameGo cs front.length : Int)
  | [], front, k, hf, hk => by
    obtain ⟨k, rfl⟩ : ∃ j, k = j + 1 := ⟨k - 1, by simp at hk; omega⟩
    rw [PQC.pidginref2_Name.l0, if_neg (by rw [hf]; simp [ints]), nameGo]
  | c :: cs, front, k, hf, hk => by
    obtain ⟨k, rfl⟩ : ∃ j, k = j + 1 := ⟨k - 1, by simp at hk; omega⟩
    have ih := ref_name_loop b hb cs (front ++ [c]) k (by rw [hf]; simp) (by simp at hk; omega)
    have hlen2 : (front.length : Int) < ((ints b).length : Int) := by rw [hf]; exact len_at _ _ _
    have hrd : rd (ints b) (front.length : Int) = (c.toNat : Int) := by rw [hf]; exact rd_at _ _ _
    have hw : wrap64 ((front.length : Int) + 1) = (((front ++ [c]).length : Nat) : Int) := by
      rw [wrap_succ _ (by have := congrArg List.length hf; simp at this; omega)]; simp
    rw [PQC.pidginref2_Name.l0, if_pos hlen2, if_pos (by omega), hrd, hw, ih, ref_letter, ref_part, nameGo]
    rw [show (front ++ [c]).length = front.length + 1 by simp]
    simp only [Option.bind_some]
    cases hl : letter c
    · by_cases h0 : front.length = 0
      · simp [h0]
      · rw [if_neg (by simp), if_pos (by omega)]
        cases hd : isDig c
        · simp
        · simp [h0]
    · simp
theorem ref_name_eq (l : Bs) (h : l.length ≤ 4611686018427387904) : ∃ k, PQC.pidginref2_Name.f k (ints l) = some (name l : Int) :=
  ⟨l.length + 1, by
    have := ref_name_loop l h l [] (l.length + 1) rfl (by omega)
    unfold PQC.pidginref2_Name.f
    exact this⟩
theorem ref_name_calls (l : Bs) (A : Option Addr) (c : Nat) (w : World) (hr : Rb w A l) (hc : l.length ≤ c) (hl : l.length ≤ 4611686018427387904) :
    Calls Tryz.prog 33 #[.slice A l.length c] w fun e w' => e = .returned (.int .i64 (name l : Int)) ∧ Drawn0 w w' := by
  obtain ⟨k, hk⟩ := ref_name_eq l hl
  have := PQC.pidginref2_Name.calls k A c (ints l) _ w (by rw [ints_length]; exact hr) (by rw [ints_length]; exact hc) hk
  rwa [ints_length] at this
theorem ref_name_str (U : Bs) (W : World) (hl : U.length ≤ 140737488355328) (sz : Nat) (hs : sz = U.length) (q : Nat) (hq : q = W.heap.size) :
    Calls Tryz.prog 33 #[.slice (some ⟨q, 0, none⟩) sz (grownCap W sz 0 5)] (Lib.bytesWorld W 5 (mk U)) fun e w' =>
      e = .returned (.int .i64 (name U : Int)) ∧ Drawn0 (Lib.bytesWorld W 5 (mk U)) w' := by
  subst hs hq
  have hr := bytes_reads W 5 (mk U) (by rw [mk_size]; omega)
  have hb : bytesOf (mk U) = ints U := by simp [bytesOf, ints, mk]
  rw [hb] at hr
  rw [mk_size] at hr
  exact ref_name_calls U _ _ _ (Kd.C_of_reads (d := 0) (h1 := fun _ => rfl) hr) (grownCap_ge _ _ _ _) (by omega)
theorem isName_calls (x : Bs) (w : World) (hx : x.length ≤ 140737488355328) :
    Calls Tryz.prog 8 #[.string (mk x)] w fun e w' => ∃ b : Bool, e = .returned (.bool b) ∧ (b = true ↔ isName x) ∧ Below w.heap.size w w' := by
  by_cases h0 : x = []
  · subst h0
    have he : (mk []).toList.isEmpty = true := mk_emp []
    go_enter Tryz.func8, Tryz.ntmps8
    go_wp2_with fail
    go_ret
    exact ⟨false, rfl, by simp [isName], Below.refl _ _⟩
  · have he : (mk x).toList.isEmpty = false := by rw [mk_emp]; simpa using h0
    have hsz : (mk x).size = x.length := mk_size x
    have hcv := fun W => Lib.run_convert_string_bytes (P := Tryz.prog) W 9 22 5 (mk x) Tryz.underlying9 Tryz.underlying22 Tryz.underlying5
    have HX : Aside0 (x.length ≤ 140737488355328) := ⟨hx⟩
    have H0 := Aside0.mk h0
    clear h0 hx
    go_enter Tryz.func8, Tryz.ntmps8
    go_wp2_with fail
    with_reducible refine (ref_name_str x _ HX.out _ (by first | rfl | simp) _ (by with_unfolding_all rfl)).mono ?_
    rintro e w1 ⟨rfl, hD⟩
    have HB := Aside0.mk (const_below (w := w) x (Below.refl _ _) hD)
    clear hD hcv
    go_wp2_with fail
    go_ret
    refine ⟨_, rfl, ?_, HB.out⟩
    simp only [isName, beq_iff_eq, H0.out, not_false_eq_true, ne_eq, true_and, decide_eq_true_eq]
    omega
end Go.Proofs.YtjllmamblkejjaaGreatDoor
end

/-
  slices.Sorted(maps.Keys(m)) and maps.Clone at this dump, by the shelf (its plain mode): the keys, sorted; a map of its own that is the same. No conditions.
-/
section
namespace Go.Proofs
open Go.Shelf
def Tryz.keys42_ren : Go.Shelf.Ren := ⟨fun | 7 => 42 | 10 => 68 | n => n, fun | 23 => 81 | 26 => 9 | 3 => 9 | 28 => 86 | 0 => 0 | 27 => 85 | 33 => 23 | 4 => 4 | n => n, fun | n => n⟩
theorem Tryz.keys42 : Go.Proofs.SlLaysZ.n7 Tryz.prog Tryz.keys42_ren := {
  mixed := by kernel_rfl
  f7 := ⟨Tryz.f42.name, by decide, Tryz.func42.trans (congrArg some (by kernel_rfl))⟩
  f10 := ⟨Tryz.f68.name, by decide, Tryz.func68.trans (congrArg some (by kernel_rfl))⟩
  t0 := Tryz.underlying0
  a0 := Tryz.isAgg0
  z0 := Tryz.sizeOf0
  v0 := Tryz.zeroValue0
  t4 := Tryz.underlying4
  a4 := Tryz.isAgg4
  z4 := Tryz.sizeOf4
  v4 := Tryz.zeroValue4
  t23 := Tryz.underlying81
  a23 := Tryz.isAgg81
  z23 := Tryz.sizeOf81
  v23 := Tryz.zeroValue81
  t26 := Tryz.underlying9
  a26 := Tryz.isAgg9
  z26 := Tryz.sizeOf9
  v26 := Tryz.zeroValue9
  t27 := Tryz.underlying85
  a27 := Tryz.isAgg85
  z27 := Tryz.sizeOf85
  v27 := Tryz.zeroValue85
  t28 := Tryz.underlying86
  a28 := Tryz.isAgg86
  z28 := Tryz.sizeOf86
  v28 := Tryz.zeroValue86
  t33 := Tryz.underlying23
  a33 := Tryz.isAgg23
  z33 := Tryz.sizeOf23
  v33 := Tryz.zeroValue23 }
def Tryz.sorted41_ren : Go.Shelf.Ren := ⟨fun | 6 => 41 | 8 => 66 | 9 => 67 | 11 => 100 | 13 => 102 | 12 => 101 | 23 => 130 | 24 => 131 | 14 => 121 | 15 => 122 | 16 => 123 | 17 => 124 | 18 => 125 | 19 => 126 | 20 => 127 | 21 => 128 | 22 => 129 | 25 => 140 | 26 => 141 | 27 => 142 | 28 => 143 | 29 => 144 | 30 => 145 | 31 => 149 | n => n, fun | 26 => 9 | 28 => 86 | 24 => 45 | 0 => 0 | 3 => 3 | 37 => 161 | 48 => 192 | 50 => 92 | 4 => 4 | 40 => 185 | 39 => 184 | 45 => 189 | 5 => 5 | 9 => 9 | 51 => 202 | 55 => 206 | 57 => 212 | 58 => 213 | 33 => 23 | n => n, fun | n => n⟩
theorem Tryz.sorted41 : Go.Proofs.SlLaysZ.n6 Tryz.prog Tryz.sorted41_ren := {
  mixed := by kernel_rfl
  f6 := ⟨Tryz.f41.name, by decide, Tryz.func41.trans (congrArg some (by kernel_rfl))⟩
  f8 := ⟨Tryz.f66.name, by decide, Tryz.func66.trans (congrArg some (by kernel_rfl))⟩
  f11 := ⟨Tryz.f100.name, by decide, Tryz.func100.trans (congrArg some (by kernel_rfl))⟩
  t0 := Tryz.underlying0
  a0 := Tryz.isAgg0
  z0 := Tryz.sizeOf0
  v0 := Tryz.zeroValue0
  t24 := Tryz.underlying45
  a24 := Tryz.isAgg45
  z24 := Tryz.sizeOf45
  v24 := Tryz.zeroValue45
  t26 := Tryz.underlying9
  a26 := Tryz.isAgg9
  z26 := Tryz.sizeOf9
  v26 := Tryz.zeroValue9
  t28 := Tryz.underlying86
  a28 := Tryz.isAgg86
  z28 := Tryz.sizeOf86
  v28 := Tryz.zeroValue86
  i26 := by kernel_rfl }
def Tryz.sort67_ren : Go.Shelf.Ren := ⟨fun | 6 => 67 | 8 => 102 | 9 => 101 | 19 => 130 | 20 => 131 | 21 => 121 | 22 => 122 | 23 => 123 | 24 => 124 | 25 => 125 | 26 => 126 | 27 => 127 | 28 => 128 | 29 => 129 | 36 => 140 | 31 => 141 | 32 => 142 | 37 => 143 | 38 => 144 | 39 => 145 | 41 => 149 | n => n, fun | 27 => 45 | 29 => 9 | 3 => 3 | 32 => 161 | 26 => 45 | 0 => 0 | 44 => 192 | 46 => 92 | 4 => 4 | 36 => 185 | 35 => 184 | 41 => 189 | 5 => 5 | 9 => 9 | 53 => 202 | 57 => 206 | 63 => 212 | 64 => 213 | n => n, fun | n => n⟩
theorem Tryz.sort67 : Go.Proofs.SlLaysM.n6 Tryz.prog Tryz.sort67_ren := {
  mixed := by kernel_rfl
  f6 := ⟨Tryz.f67.name, by decide, Tryz.func67.trans (congrArg some (by kernel_rfl))⟩
  f8 := Tryz.func102.trans (congrArg some (by kernel_rfl))
  f9 := ⟨Tryz.f101.name, by decide, Tryz.func101.trans (congrArg some (by kernel_rfl))⟩
  f19 := Tryz.func130.trans (congrArg some (by kernel_rfl))
  f20 := Tryz.func131.trans (congrArg some (by kernel_rfl))
  f21 := ⟨Tryz.f121.name, by decide, Tryz.func121.trans (congrArg some (by kernel_rfl))⟩
  f22 := ⟨Tryz.f122.name, by decide, Tryz.func122.trans (congrArg some (by kernel_rfl))⟩
  f23 := ⟨Tryz.f123.name, by decide, Tryz.func123.trans (congrArg some (by kernel_rfl))⟩
  f24 := ⟨Tryz.f124.name, by decide, Tryz.func124.trans (congrArg some (by kernel_rfl))⟩
  f25 := ⟨Tryz.f125.name, by decide, Tryz.func125.trans (congrArg some (by kernel_rfl))⟩
  f26 := ⟨Tryz.f126.name, by decide, Tryz.func126.trans (congrArg some (by kernel_rfl))⟩
  f27 := ⟨Tryz.f127.name, by decide, Tryz.func127.trans (congrArg some (by kernel_rfl))⟩
  f28 := ⟨Tryz.f128.name, by decide, Tryz.func128.trans (congrArg some (by kernel_rfl))⟩
  f29 := ⟨Tryz.f129.name, by decide, Tryz.func129.trans (congrArg some (by kernel_rfl))⟩
  f31 := Tryz.func141.trans (congrArg some (by kernel_rfl))
  f32 := Tryz.func142.trans (congrArg some (by kernel_rfl))
  f36 := ⟨Tryz.f140.name, by decide, Tryz.func140.trans (congrArg some (by kernel_rfl))⟩
  f37 := ⟨Tryz.f143.name, by decide, Tryz.func143.trans (congrArg some (by kernel_rfl))⟩
  f38 := ⟨Tryz.f144.name, by decide, Tryz.func144.trans (congrArg some (by kernel_rfl))⟩
  f39 := ⟨Tryz.f145.name, by decide, Tryz.func145.trans (congrArg some (by kernel_rfl))⟩
  f41 := ⟨Tryz.f149.name, by decide, Tryz.func149.trans (congrArg some (by kernel_rfl))⟩
  t0 := Tryz.underlying0
  a0 := Tryz.isAgg0
  z0 := Tryz.sizeOf0
  v0 := Tryz.zeroValue0
  t3 := Tryz.underlying3
  a3 := Tryz.isAgg3
  z3 := Tryz.sizeOf3
  v3 := Tryz.zeroValue3
  t4 := Tryz.underlying4
  a4 := Tryz.isAgg4
  z4 := Tryz.sizeOf4
  v4 := Tryz.zeroValue4
  t5 := Tryz.underlying5
  a5 := Tryz.isAgg5
  z5 := Tryz.sizeOf5
  v5 := Tryz.zeroValue5
  t9 := Tryz.underlying9
  a9 := Tryz.isAgg9
  z9 := Tryz.sizeOf9
  v9 := Tryz.zeroValue9
  t26 := Tryz.underlying45
  a26 := Tryz.isAgg45
  z26 := Tryz.sizeOf45
  v26 := Tryz.zeroValue45
  t27 := Tryz.underlying45
  a27 := Tryz.isAgg45
  z27 := Tryz.sizeOf45
  v27 := Tryz.zeroValue45
  t29 := Tryz.underlying9
  a29 := Tryz.isAgg9
  z29 := Tryz.sizeOf9
  v29 := Tryz.zeroValue9
  t32 := Tryz.underlying161
  a32 := Tryz.isAgg161
  z32 := Tryz.sizeOf161
  v32 := Tryz.zeroValue161
  t35 := Tryz.underlying184
  a35 := Tryz.isAgg184
  z35 := Tryz.sizeOf184
  v35 := Tryz.zeroValue184
  t36 := Tryz.underlying185
  a36 := Tryz.isAgg185
  z36 := Tryz.sizeOf185
  v36 := Tryz.zeroValue185
  t41 := Tryz.underlying189
  a41 := Tryz.isAgg189
  z41 := Tryz.sizeOf189
  v41 := Tryz.zeroValue189
  t44 := Tryz.underlying192
  a44 := Tryz.isAgg192
  z44 := Tryz.sizeOf192
  v44 := Tryz.zeroValue192
  t46 := Tryz.underlying92
  a46 := Tryz.isAgg92
  z46 := Tryz.sizeOf92
  v46 := Tryz.zeroValue92
  t53 := Tryz.underlying202
  a53 := Tryz.isAgg202
  z53 := Tryz.sizeOf202
  v53 := Tryz.zeroValue202
  t57 := Tryz.underlying206
  a57 := Tryz.isAgg206
  z57 := Tryz.sizeOf206
  v57 := Tryz.zeroValue206
  t63 := Tryz.underlying212
  a63 := Tryz.isAgg212
  z63 := Tryz.sizeOf212
  v63 := Tryz.zeroValue212
  t64 := Tryz.underlying213
  a64 := Tryz.isAgg213
  z64 := Tryz.sizeOf213
  v64 := Tryz.zeroValue213 }
def Tryz.clone43_ren : Go.Shelf.Ren := ⟨fun | 5 => 43 | 7 => 69 | n => n, fun | 23 => 81 | 25 => 9 | 3 => 9 | 4 => 4 | 20 => 20 | n => n, fun | n => n⟩
theorem Tryz.clone43 : Go.Proofs.SlLaysW.n5 Tryz.prog Tryz.clone43_ren := {
  mixed := by kernel_rfl
  f5 := ⟨Tryz.f43.name, by decide, Tryz.func43.trans (congrArg some (by kernel_rfl))⟩
  f7 := Tryz.func69.trans (congrArg some (by kernel_rfl))
  t4 := Tryz.underlying4
  a4 := Tryz.isAgg4
  z4 := Tryz.sizeOf4
  v4 := Tryz.zeroValue4
  t20 := Tryz.underlying20
  a20 := Tryz.isAgg20
  z20 := Tryz.sizeOf20
  v20 := Tryz.zeroValue20
  t23 := Tryz.underlying81
  a23 := Tryz.isAgg81
  z23 := Tryz.sizeOf81
  v23 := Tryz.zeroValue81 }
end Go.Proofs
namespace Go.Proofs
open Go.RowKit Go.Maps Go.Sort Go.Shelf
theorem Tryz.sorts41 (m : Nat) : AnyZ.SortsIn Tryz.prog Tryz.sorted41_ren Fence.wide m :=
  ⟨fun blk off cap ss W hH hblk hsz => callsIn_wide.2 (AnyM.slices_Sort_string Tryz.sort67 blk off cap ss W hH hblk hsz),
   fun p cap W => callsIn_wide.2 (AnyM.slices_Sort_string_none Tryz.sort67 p cap W)⟩

theorem Tryz.maps_Keys_42 (mb : Option Nat) (W : World) : CallsIn Fence.wide 5 Tryz.prog 42 #[.map mb] W fun e w' => e = .returned (.func (.func 68) #[] #[.pointer (some ⟨W.heap.size, 0, none⟩)]) ∧ w' = W.alloc (.cells #[.map mb] 81) :=
  AnyZ.keys_in Tryz.keys42 Fence.wide 5 trivial rfl mb W

set_option maxHeartbeats 1000000 in
theorem Tryz.slices_Sorted_keys_41_42 {H : Type} (b nn : Nat) (D0 : DataW H) (R : Value → Option (DataW H × List MemPlace)) (w : World) (hown : w.ownsMap Tryz.prog 9 R b nn D0) (hmax : Maps.size D0 ≤ maxLen) (hbytes : Maps.size D0 * 16 ≤ 140737488355328) :
    CallsIn Fence.wide 5 Tryz.prog 41 #[.func (.func 68) #[] #[.pointer (some ⟨w.heap.size, 0, none⟩)]] (w.alloc (.cells #[.map (some b)] 81)) fun e w' => ∃ (v : Value) (ss : List (List UInt8)), e = .returned v ∧ ss.Perm (strKeys D0) ∧
      w'.ownsRow (w.alloc (.cells #[.map (some b)] 81)).heap.size 9 1 v ss.length ((ss.mergeSort (fun x y => decide (x ≤ y))).map encStr) ∧ (v = .slice none 0 0 ↔ ss = []) ∧ Below (w.alloc (.cells #[.map (some b)] 81)).heap.size (w.alloc (.cells #[.map (some b)] 81)) w' := by
  have hbl := hown.lt
  have hseq : SeqGives Fence.wide 2 Tryz.prog 68 #[.pointer (some ⟨w.heap.size, 0, none⟩)] encStr (fun ss => ss.Perm (strKeys D0)) (Maps.size D0) (w.alloc (.cells #[.map (some b)] 81)) :=
    AnyZ.keys_gives (ρ := Tryz.keys42_ren) { Tryz.keys42 with } Fence.wide _ trivial rfl (by omega) w.heap.size b nn D0 _ (by simp) (by simp) (by
      obtain ⟨es, clock, hb, Ft, hs, hD⟩ := hown
      exact ⟨es, clock, (Below.heap_alloc _ _ b hbl).trans hb, Ft, hs, hD⟩)
  exact AnyZ.sorted_in Tryz.sorted41 Fence.wide 5 trivial trivial trivial trivial rfl (by omega) (Tryz.sorts41 _) (enters_of Tryz.func67 (by kernel_rfl) rfl) 68 #[.pointer (some ⟨w.heap.size, 0, none⟩)] trivial (enters_of Tryz.func68 (by kernel_rfl) rfl) _ _ hmax hbytes _ hseq

set_option maxHeartbeats 1000000 in
theorem Tryz.slices_Sorted_keys_nil_41_42 (w : World) :
    CallsIn Fence.wide 5 Tryz.prog 41 #[.func (.func 68) #[] #[.pointer (some ⟨w.heap.size, 0, none⟩)]] (w.alloc (.cells #[.map none] 81)) fun e w' => ∃ (v : Value) (ss : List (List UInt8)), e = .returned v ∧ ss = [] ∧
      w'.ownsRow (w.alloc (.cells #[.map none] 81)).heap.size 9 1 v ss.length ((ss.mergeSort (fun x y => decide (x ≤ y))).map encStr) ∧ (v = .slice none 0 0 ↔ ss = []) ∧ Below (w.alloc (.cells #[.map none] 81)).heap.size (w.alloc (.cells #[.map none] 81)) w' := by
  have hseq : SeqGives Fence.wide 2 Tryz.prog 68 #[.pointer (some ⟨w.heap.size, 0, none⟩)] encStr (fun ss : List (List UInt8) => ss = []) 0 (w.alloc (.cells #[.map none] 81)) :=
    AnyZ.keys_gives_nil (ρ := Tryz.keys42_ren) { Tryz.keys42 with } Fence.wide _ trivial rfl w.heap.size _ (by simp) (by simp)
  exact AnyZ.sorted_in Tryz.sorted41 Fence.wide 5 trivial trivial trivial trivial rfl (by omega) (Tryz.sorts41 _) (enters_of Tryz.func67 (by kernel_rfl) rfl) 68 #[.pointer (some ⟨w.heap.size, 0, none⟩)] trivial (enters_of Tryz.func68 (by kernel_rfl) rfl) _ 0 (Nat.zero_le _) (by omega) _ hseq

end Go.Proofs
end

/- (*acode.Vars).List: all variables, by rising names, in a row of the call's own. No conditions. -/
section
set_option linter.unusedVariables false
set_option linter.unusedSimpArgs false
namespace Go.Proofs.YtjllmamblkejjaaGreatDoor
open Go.RowKit Go.Proofs.YtjllmamblkejjaaGreatDoorW.PrintWords Go.Proofs.YtjllmamblkejjaaGreatDoorW.PrintLast Go.Proofs.YtjllmamblkejjaaGreatDoorW.PrintMore
open PQA Sp Go.WideShapes

def vcells (p : Bs × Bs) : List Value := [.string (mk p.1), .string (mk p.2)]
def vflat (m : Vs) : List Value := (m.map vcells).flatten
theorem vflat_len (m : Vs) : (vflat m).length = m.length * 2 := by
  induction m with
  | nil => rfl
  | cons p m ih => show (vcells p ++ vflat m).length = _; rw [List.length_append, ih]; simp [vcells]; omega
theorem vflat_snoc (m : Vs) (p : Bs × Bs) : vflat (m ++ [p]) = vflat m ++ vcells p := by simp [vflat]

theorem le_of_bef : ∀ {a b : Bs}, bytesBefore a b = true → a ≤ b
  | [], [], h => by simp [bytesBefore] at h
  | [], _ :: _, _ => List.nil_le _
  | _ :: _, [], h => by simp [bytesBefore] at h
  | x :: a, y :: b, h => by
    simp only [bytesBefore, Bool.or_eq_true, decide_eq_true_eq, Bool.and_eq_true, beq_iff_eq] at h
    rw [List.cons_le_cons_iff]
    rcases h with h | ⟨h1, h2⟩
    · exact .inl h
    · exact .inr ⟨h1, le_of_bef h2⟩
theorem keys_dat (m : Vs) : strKeys (dat m) = m.map (·.1) := by
  show ((m.map ent).map fun p => strOf p.1) = _
  rw [List.map_map]; rfl
theorem keys_sorted {m : Vs} (hr : Rising m) {ss : List Bs} (hp : ss.Perm (strKeys (dat m))) : ss.mergeSort (fun x y => decide (x ≤ y)) = m.map (·.1) := by
  refine (mergeSort_of_perm hp).trans ?_
  rw [keys_dat]
  refine List.mergeSort_of_pairwise ?_
  rw [List.pairwise_map]
  exact hr.imp fun h => decide_eq_true (le_of_bef h)
/-- A row of one cell an element, opened. -/
theorem row_open {w : World} {base : Nat} {e : TypeId} {v : Value} {n : Nat} {xs : List Value} (h : w.ownsRow base e 1 v n xs) :
    ∃ A cap, v = .slice A n cap ∧ ∀ i, i < n → ∃ q, A = some ⟨q, 0, none⟩ ∧ q < w.heap.size ∧ w.cell? ⟨q, i, none⟩ = xs[i]? := by
  rcases Nat.eq_zero_or_pos n with rfl | hn
  · rcases h.2 with ⟨h1, h2⟩ | ⟨g, cap, cur, hv, _⟩
    · exact ⟨none, 0, h1, fun i hi => absurd hi (by omega)⟩
    · exact ⟨some ⟨g, 0, none⟩, cap, hv, fun i hi => absurd hi (by omega)⟩
  · obtain ⟨g, cap, rfl, hge, hlt⟩ := World.ownsRow.form h hn
    exact ⟨some ⟨g, 0, none⟩, cap, rfl, fun i hi => ⟨g, rfl, hlt, h.cellAt i (by omega)⟩⟩

theorem infoV : (Tryz.prog.info? 89).map (fun i => (i.zero, i.size, i.bytes)) = some (some (.agg #[.string ⟨#[]⟩, .string ⟨#[]⟩]), 2, 32) := by kernel_rfl
/-- append(l, v): one variable more, at a step of a region that draws. -/
theorem step_var {ops : Array Oper} {o : Oper} {a : Act} {Q : Exit → Act → World → Prop} {K : Act → World → Prop} {W : World} (base : Nat) (hw : Region.wanted o (yielded ops a.tmps) = true) (s x : Operand)
    (ho : o.op = .call { callee := .builtin .append, args := #[s, x], argTypes := #[35, 35] })
    (v : Value) (n : Nat) (xs ys : List Value) (hs : a.eval s = v) (B : Nat) (hB : W.heap.size = B) (hx : a.eval x = .slice (some ⟨B, 0, none⟩) 1 1) (hys : ys.length = 2) (h1 : ∀ u ∈ ys, u.oneCell' = true)
    (HO : W.ownsRow base 89 2 v n xs) (hbase : base ≤ W.heap.size) (hl : n ≤ 1000000)
    (h : ∀ v1 w1, w1.ownsRow base 89 2 v1 (n + 1) (xs ++ ys) → W.grownBy w1 v.ownBlock → (v1.ownBlock = v.ownBlock ∨ ∃ b, v1.ownBlock = some b ∧ W.heap.size ≤ b) → K (a.put o.dst v1) w1) :
    if Region.wanted o (yielded ops a.tmps) = true then Oper.wp Tryz.prog o a (W.alloc (.cells ys.toArray 89)) K Q else K (a.put o.dst undef) (W.alloc (.cells ys.toArray 89)) := by
  subst hB
  exact step_append_cells (w0 := W) base hw s x 35 89 _ 2 32 ho Tryz.underlying35 infoV rfl (by omega) (by omega) v n xs ys hs hx hys h1 HO (Below.refl _ _) hbase (by omega) fun v1 w1 a1 _ a3 a4 => h v1 w1 a1 a3 a4

/-- .. and at an operation of a plain walk. -/
theorem wp_var {ops : Array Oper} {rest : List Oper} {o : Oper} {a : Act} {Q : Exit → Act → World → Prop} {W : World} (hgd : o.guard = none) (s x : Operand)
    (ho : o.op = .call { callee := .builtin .append, args := #[s, x], argTypes := #[35, 35] })
    (base : Nat) (v : Value) (n : Nat) (xs ys : List Value) (hs : a.eval s = v) (HO : W.ownsRow base 89 2 v n xs) (B : Nat) (hB : W.heap.size = B) (hx : a.eval x = .slice (some ⟨B, 0, none⟩) 1 1) (hys : ys.length = 2) (h1 : ∀ u ∈ ys, u.oneCell' = true)
    (hbase : base ≤ W.heap.size) (hl : n ≤ 1000000)
    (h : ∀ v1 w1, w1.ownsRow base 89 2 v1 (n + 1) (xs ++ ys) → W.grownBy w1 v.ownBlock → (v1.ownBlock = v.ownBlock ∨ ∃ b, v1.ownBlock = some b ∧ W.heap.size ≤ b) → wpList Tryz.prog ops Q rest (a.put o.dst v1) w1) :
    wpList Tryz.prog ops Q (o :: rest) a (W.alloc (.cells ys.toArray 89)) := by
  refine wpList_plain hgd fun K hK => ?_
  subst hB
  obtain ⟨i0, hi, hz0, hz1, hz2⟩ := info_parts infoV
  obtain ⟨v1, w1, hr, hown, hg, _, hat⟩ := run_append_own_at (P := Tryz.prog) (W.alloc (.cells ys.toArray 89)) base 35 o.type 89 i0 _ 2 32 Tryz.underlying35 hi hz0 hz1 hz2 rfl (by omega) v n xs (HO.alloc _) ⟨W.heap.size, 0, none⟩ 1 1 ys (by rw [hys])
    (by simpa using World.news_of_block (cs := ys.toArray) (t := 89) (fr := (0, 0)) (heap_alloc_new W (.cells ys.toArray 89))) h1 (by simp only [maxLen]; omega) (by omega) (by simp; omega)
  unfold Oper.wp execOp
  simp only [ho, resolve, invoke, builtin, Sem.run_bind, Sem.run_pure, Result.andThen_ok, List.map_toArray, List.map_cons, List.map_nil, hs, hx, hr]
  refine hK _ _ (h v1 w1 hown (World.grownBy.trans (World.grownBy_alloc W _ _) hg) ?_)
  rcases hat with hat | hat
  · exact .inl hat
  · exact .inr ⟨_, hat, by simp⟩

/-- Where List's loop stands, over the world w2 in which it began: i variables told. -/
structure ListLoop (w2 : World) (m : Vs) (i : Nat) (v : Value) (wr : World) : Prop where
  row : wr.ownsRow w2.heap.size 89 2 v i (vflat (m.take i))
  nil : i = 0 → v = .slice none 0 0
  below : Below w2.heap.size w2 wr

set_option maxHeartbeats 4000000 in
set_option maxRecDepth 100000 in
theorem list_calls (g bv : Nat) (m : Vs) (w : World) (h : VarsIn w g bv m) :
    Calls Tryz.prog 14 #[.pointer (some ⟨g, 0, none⟩)] w fun e w' => ∃ v, e = .returned v ∧ w'.ownsRow w.heap.size 89 2 v m.length (vflat m) ∧ (m = [] → v = .slice none 0 0) ∧ Below w.heap.size w w' := by
  have hc : w.cell? ⟨g, 0, none⟩ = some (.map (some bv)) := (blk_cell h.blk 0).trans rfl
  have hks := callsIn_wide.1 (Tryz.slices_Sorted_keys_41_42 bv m.length (dat m) _ w h.map (by rw [dat_size]; have := h.len; simp [maxLen]; omega) (by rw [dat_size]; have := h.len; omega))
  have HKS := Aside0.mk hks
  have HV := Aside0.mk h
  clear h hks
  go_enter Tryz.func14, Tryz.ntmps14
  go_wp2_with fail
  with_reducible refine (callsIn_wide.1 (Tryz.maps_Keys_42 (some bv) w)).mono ?_
  rintro e w1 ⟨rfl, rfl⟩
  go_wp2_with fail
  with_reducible refine HKS.out.mono ?_
  rintro e w2 ⟨v, ss, rfl, hS, hrow, hnil, hb⟩
  have hlen : ss.length = m.length := by have := hS.length_eq; rw [keys_dat] at this; simpa using this
  rw [keys_sorted HV.out.rising hS, hlen] at hrow
  obtain ⟨A, cap, rfl, hA⟩ := row_open hrow
  have HA := Aside0.mk hA
  have HB := Aside0.mk (show Below w.heap.size w w2 from (below_alloc (Below.refl _ _) _).trans (hb.mono (by simp)))
  have HV2 := Aside0.mk (HV.out.below HB.out)
  clear hS hrow hnil hb hA hlen hc HKS
  generalize hn : m.length = n at *
  have HN := Aside0.mk hn
  clear hn
  have HL := Aside0.mk (ListLoop.mk (w2 := w2) (m := m) (i := 0) (v := .slice none 0 0) (wr := w2) ⟨rfl, .inl ⟨rfl, rfl⟩⟩ (fun _ => rfl) (Below.refl _ _))
  go_wp2_with fail
  go_loopg [3, 15] n (fun gk v3 v15 wr => ∃ i : Nat, v15 = .int .i64 (i : Int) ∧ i ≤ n ∧ gk = n - i ∧ Aside0 (ListLoop w2 m i v3 wr))
  case atStart => exact ⟨0, rfl, by omega, rfl, HL⟩
  case round =>
    obtain ⟨i, rfl, hi, hgk, HC⟩ := hrel
    clear HL
    have hcmp : (decide ((i : Int) < (n : Int))) = decide (i < n) := by simp
    obtain ⟨how, hv0, hbel⟩ := HC.out
    by_cases hin : i < n
    · obtain ⟨q, rfl, hq, hx⟩ := HA.out i hin
      have him : i < m.length := by rw [HN.out]; exact hin
      have hx0 : wr.cell? ⟨q, i, none⟩ = some (.string (mk (m[i]).1)) := by
        refine (World.cell?_of_block (w := w2) (hbel.block q hq)).trans (hx.trans ?_)
        rw [List.getElem?_map, List.getElem?_map, List.getElem?_eq_getElem him]; rfl
      have hmem : m[i] ∈ m := List.getElem_mem him
      have hlk := (HV2.out.below hbel).map.look1 (HV2.out.names _ hmem)
      have hmg : mget (m[i]).1 m = some (m[i]).2 := (mget_mem HV2.out.rising).2 hmem
      rw [hmg] at hlk
      have hlk' : (Instr.lookup 81 (.map (some bv)) (.string (mk (m[i]).1)) false).run Tryz.prog wr = .ok (.string (mk (m[i]).2)) wr := hlk
      have hcg : wr.cell? ⟨g, 0, none⟩ = some (.map (some bv)) := (blk_cell (HV2.out.below hbel).blk 0).trans rfl
      have htk : m.take (i + 1) = m.take i ++ [m[i]] := List.take_succ_eq_append_getElem him
      generalize m[i] = x at *
      have hln : i ≤ 1000000 := by have := HV2.out.len; omega
      have hwl := hbel.size
      have HO := Aside0.mk how
      have HV0 := Aside0.mk hv0
      have HBL := Aside0.mk hbel
      have HTK := Aside0.mk htk
      have HX := Aside0.mk hx0
      have HLK := Aside0.mk hlk'
      have HCG := Aside0.mk hcg
      clear how hv0 hbel htk hmem hlk hmg HC hx
      go_wp2_with (at_builtin; refine wp_var rfl (.tmp 19) (.tmp 28) rfl w2.heap.size u3 i (vflat (m.take i)) [.string (mk x.1), .string (mk x.2)] rfl HO.out wr.heap.size rfl rfl rfl (by simp [Value.oneCell']) (by omega) hln ?_; intro v1 w6 ho6 hg6 hat6; have HO6 := Aside0.mk ho6; have HG6 := Aside0.mk hg6; have HAT6 := Aside0.mk hat6; clear ho6 hg6 hat6)
      go_roundg (n - (i + 1))
      case measure => omega
      case rel =>
        refine ⟨i + 1, by go_num, by omega, rfl, ⟨⟨?_, fun h => absurd h (by omega), ?_⟩⟩⟩
        · rw [HTK.out, vflat_snoc]; exact HO6.out
        · exact grown_below HBL.out HG6.out hwl (fun q hq => (own_lt HO.out q hq).1)
    · go_wp2_with fail
      obtain rfl : i = n := by omega
      refine bodyPost_ret (v := u3) (by simp [results, Tryz.results14, go_sem]) rfl ?_
      refine ⟨_, rfl, ?_, fun h => hv0 ?_, ?_⟩
      · have h1 : m.take i = m := by rw [← HN.out]; exact List.take_length
        rw [h1] at how
        rw [HN.out]
        exact own_weaken how HB.out.size
      · rw [← HN.out, h]; rfl
      · exact below_then HB.out HB.out.size hbel
end Go.Proofs.YtjllmamblkejjaaGreatDoor
end

/- Texts that come in, and how arguments read behind a call. No conditions. -/
section
set_option linter.unusedVariables false
set_option linter.unusedSimpArgs false
namespace Go.Proofs.YtjllmamblkejjaaGreatDoor
open Go.ChangeShapes Go.WideShapes Go.ChangeAt Go.RowKit Sp Go.Proofs.YtjllmamblkejjaaGreatDoorW.PrintWords

theorem Tryz.laidOut : laidOutB Tryz.prog = true := by kernel_rfl
/-- Arguments read behind the call as they did. -/
theorem trodAll_behind {H : Type} {enc : TypeId × Value → H} {P : Program} (hl : laidOutB P = true) {W W' : World} (hb : Below W.heap.size W W') (ts : List TypeId) : ∀ (vs : List Value) (ds : List (DataW H)) (ps : List MemPlace),
    (ts.all fun t => P.readableRec t && decide (t < P.types.size)) = true → (∀ x ∈ ps, x.block < W.heap.size) → DataW.TrodAll enc P W 0 (fun _ => true) true ts vs ds ps → DataW.TrodAll enc P W' 0 (fun b => decide (b < W.heap.size)) true ts vs ds ps := by
  induction ts with
  | nil =>
    intro vs ds ps _ _ h
    cases vs <;> cases ds <;> first | exact h | exact h.elim
  | cons t ts ih =>
    intro vs ds ps ht hlt h
    cases vs with
    | nil => exact h.elim
    | cons v vs =>
      cases ds with
      | nil => exact h.elim
      | cons d ds =>
        obtain ⟨p, q, h1, h2, rfl⟩ := h
        simp only [List.all_cons, Bool.and_eq_true, decide_eq_true_eq] at ht
        exact ⟨p, q, Below.trod hl ht.1.1 ht.1.2 h1 hb (fun x hx => hlt x (List.mem_append_left _ hx)), ih _ _ _ ht.2 (fun x hx => hlt x (List.mem_append_right _ hx)) h2, rfl⟩
theorem u8_of {z : Int} (h : (Lit.int .u8 z).wf = true) : (((UInt8.ofNat z.toNat).toNat : Nat) : Int) = z := by
  have := bounds_u8 h
  rw [UInt8.toNat_ofNat']
  omega
set_option maxRecDepth 100000 in
/-- A text that came in. -/
theorem open_text {H : Type} {enc : TypeId × Value → H} {W : World} {hd : Bool} {v : Value} {d : DataW H} {p : List MemPlace} {base : Nat} (hval : Value.okWide Tryz.prog W .any base 22 v) (h : DataW.Trod enc Tryz.prog W 0 (fun _ => true) hd 22 v d p) :
    ∃ (A : Option Addr) (b : Bs) (c : Nat), v = .slice A b.length c ∧ Rb W A b ∧ b.length ≤ c := by
  obtain ⟨a, len, cap, rfl⟩ := okWide_slice Tryz.underlying22 hval
  obtain ⟨fuel, hf⟩ := h
  rcases open_ints Tryz.underlying22 Tryz.underlying5 Tryz.cellsU8 hf with ⟨hcs, _⟩ | ⟨ad, l, cp, zs, hcs, _, hl, hm, hz, _, hcell, hw⟩
  · simp only [Value.cells, List.cons.injEq, Value.slice.injEq, and_true] at hcs
    obtain ⟨rfl, rfl, rfl⟩ := hcs
    exact ⟨none, [], 0, rfl, Kd.C_of_reads (d := 0) (h1 := fun _ => rfl) ⟨ints_length [], by simp, fun h => absurd h (by simp)⟩, Nat.le_refl _⟩
  · simp only [Value.cells, List.cons.injEq, Value.slice.injEq, and_true] at hcs
    obtain ⟨rfl, rfl, rfl⟩ := hcs
    simp only [if_true] at hz
    have hbl : ((zs.take len).map fun z => UInt8.ofNat z.toNat).length = len := by simp; omega
    have hint : ints ((zs.take len).map fun z => UInt8.ofNat z.toNat) = zs.take len := by
      unfold ints
      rw [List.map_map]
      conv => rhs; rw [← List.map_id (zs.take len)]
      refine List.map_congr_left fun z hzm => ?_
      exact u8_of (hw z (List.mem_of_mem_take hzm))
    refine ⟨some ad, (zs.take len).map fun z => UInt8.ofNat z.toNat, cap, by rw [hbl], ?_, by rw [hbl]; exact hl⟩
    refine Kd.C_of_reads (d := 0) (h1 := fun _ => rfl) ⟨ints_length _, by rw [hbl]; unfold maxLen at hm; omega, fun _ => ⟨_, rfl, fun j hj => ?_⟩⟩
    rw [hbl] at hj
    rw [hint, hcell j (by omega)]
    simp [List.getD, hj]
end Go.Proofs.YtjllmamblkejjaaGreatDoor
end
