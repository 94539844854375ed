/- A part of the proof: texts of ours, joined by a program, each in a section of its own; what each proves, and under what conditions, stands ahead of it. -/
import Derived.Test.YtjllmamblkejjaaGreatDoorC
import Derived.Deep.SlicePairs

/- The document's SameVars: are two rows of variables the same. No conditions. -/
section
set_option linter.unusedVariables false
set_option linter.unusedSimpArgs false
namespace Go.Proofs.YtjllmamblkejjaaGreatDoor
open Go.RowKit Go.Proofs.YtjllmamblkejjaaGreatDoorW.PrintWords Go.Proofs.YtjllmamblkejjaaGreatDoorW.PrintLast Go.Proofs.YtjllmamblkejjaaGreatDoorW.PrintMore
open PQA Sp Go.WideShapes

/-- A row of variables in memory. -/
def RowV (w : World) (A : Option Addr) (m : Vs) : Prop := ∀ i x, m[i]? = some x → ∃ q, A = some ⟨q, 0, none⟩ ∧ q < w.heap.size ∧ w.cell? ⟨q, i * 2, none⟩ = some (.string (mk x.1)) ∧ w.cell? ⟨q, i * 2 + 1, none⟩ = some (.string (mk x.2))
theorem RowV.below {w w' : World} {A : Option Addr} {m : Vs} (h : RowV w A m) (hb : Below w.heap.size w w') : RowV w' A m := fun i x hx => by
  obtain ⟨q, hA, hq, h0, h1⟩ := h i x hx
  exact ⟨q, hA, Nat.lt_of_lt_of_le hq hb.size, (World.cell?_of_block (w := w) (hb.block q hq)).trans h0, (World.cell?_of_block (w := w) (hb.block q hq)).trans h1⟩
set_option maxHeartbeats 4000000 in
set_option maxRecDepth 100000 in
theorem same_calls (A1 A2 : Option Addr) (c1 c2 : Nat) (m1 m2 : Vs) (w : World) (h1 : RowV w A1 m1) (h2 : RowV w A2 m2) (hl : m1.length ≤ 1000000000) :
    Calls Tryz.prog 18 #[.slice A1 m1.length c1, .slice A2 m2.length c2] w fun e w' => e = .returned (.bool (decide (m1 = m2))) ∧ Drawn0 w w' := by
  generalize hn1 : m1.length = n1 at *
  generalize hn2 : m2.length = n2 at *
  by_cases hnn : n1 = n2
  · subst hnn
    have HA1 := Aside0.mk h1
    have HA2 := Aside0.mk h2
    have HN1 := Aside0.mk hn1
    have HN2 := Aside0.mk hn2
    clear h1 h2 hn1 hn2
    go_enter Tryz.func18, Tryz.ntmps18
    go_wp2_with fail
    go_loopg [5, 13] n1 (fun gk v5 v13 wr => ∃ i : Nat, v13 = .int .i64 (i : Int) ∧ i ≤ n1 ∧ gk = n1 - i ∧ Aside0 (m1.take i = m2.take i ∧ Drawn0 w wr))
    case atStart => exact ⟨0, rfl, by omega, rfl, ⟨rfl, Drawn0.refl _⟩⟩
    case round =>
      obtain ⟨i, rfl, hi, hgk, HC⟩ := hrel
      by_cases hin : i < n1
      · have hi1 : i < m1.length := by rw [HN1.out]; exact hin
        have hi2 : i < m2.length := by rw [HN2.out]; exact hin
        obtain ⟨q1, rfl, hq1, ha1, hb1⟩ := HA1.out i _ (List.getElem?_eq_getElem hi1)
        obtain ⟨q2, rfl, hq2, ha2, hb2⟩ := HA2.out i _ (List.getElem?_eq_getElem hi2)
        have hd := HC.out.2.below
        have xa1 := (World.cell?_of_block (w := w) (a := ⟨q1, i * 2, none⟩) (hd.block q1 hq1)).trans ha1
        have xb1 := (World.cell?_of_block (w := w) (a := ⟨q1, i * 2 + 1, none⟩) (hd.block q1 hq1)).trans hb1
        have xa2 := (World.cell?_of_block (w := w) (a := ⟨q2, i * 2, none⟩) (hd.block q2 hq2)).trans ha2
        have xb2 := (World.cell?_of_block (w := w) (a := ⟨q2, i * 2 + 1, none⟩) (hd.block q2 hq2)).trans hb2
        have HT1 := Aside0.mk (List.take_succ_eq_append_getElem hi1)
        have HT2 := Aside0.mk (List.take_succ_eq_append_getElem hi2)
        generalize m1[i] = x at *
        generalize m2[i] = y at *
        clear ha1 hb1 ha2 hb2 hd hi1 hi2 hq1 hq2
        by_cases e1 : x.1 = y.1
        · by_cases e2 : x.2 = y.2
          · obtain rfl : x = y := Prod.ext e1 e2
            go_wp2_with fail
            go_region
            go_wp2_with fail
            go_roundg (n1 - (i + 1))
            case measure => omega
            case rel => exact ⟨i + 1, by go_num, by omega, rfl, ⟨by rw [HT1.out, HT2.out, HC.out.1], HC.out.2.step 1⟩⟩
          · have hf : ¬ (mk x.2).toList = (mk y.2).toList := by rw [mk_toList, mk_toList]; exact e2
            have hf1 : (mk x.1).toList = (mk y.1).toList := by rw [e1]
            have HE := Aside0.mk e2
            clear e1 e2
            go_wp2_with fail
            go_region
            go_wp2_with fail
            go_ret
            have hd : decide (m1 = m2) = false := decide_eq_false fun e => by
              have h := HT1.out.symm.trans ((congrArg (List.take (i + 1)) e).trans HT2.out)
              rw [HC.out.1] at h
              have hxy : x = y := by simpa using h
              exact HE.out (by rw [hxy])
            exact ⟨by rw [hd]; rfl, HC.out.2.step 1⟩
        · have hf : ¬ (mk x.1).toList = (mk y.1).toList := by rw [mk_toList, mk_toList]; exact e1
          have HE := Aside0.mk e1
          clear e1
          go_wp2_with fail
          go_region
          go_wp2_with fail
          go_ret
          have hd : decide (m1 = m2) = false := decide_eq_false fun e => by
            have h := HT1.out.symm.trans ((congrArg (List.take (i + 1)) e).trans HT2.out)
            rw [HC.out.1] at h
            have hxy : x = y := by simpa using h
            exact HE.out (by rw [hxy])
          exact ⟨by rw [hd]; rfl, HC.out.2.step 1⟩
      · go_wp2_with fail
        obtain rfl : i = n1 := by omega
        go_ret
        have h1 := HC.out.1
        rw [List.take_of_length_le (Nat.le_of_eq HN1.out), List.take_of_length_le (Nat.le_of_eq HN2.out)] at h1
        have hd : decide (m1 = m2) = true := decide_eq_true h1
        exact ⟨by rw [hd]; rfl, HC.out.2⟩
  · have hd : m1 ≠ m2 := fun e => hnn (by rw [← hn1, ← hn2, e])
    have HD := Aside0.mk hd
    clear hd h1 h2 hn1 hn2
    go_enter Tryz.func18, Tryz.ntmps18
    go_wp2_with fail
    go_ret
    exact ⟨by rw [decide_eq_false HD.out]; rfl, Drawn0.refl _⟩
end Go.Proofs.YtjllmamblkejjaaGreatDoor
end

/- Plain law: the document's Set and Unset on sorted variables. No program in sight. Conditions: the variables rise by names. -/
section
set_option linter.unusedVariables false
set_option linter.unusedSimpArgs false
namespace Go.Proofs.YtjllmamblkejjaaGreatDoor
open Go.WideShapes Sp

/-- One round of the document's Set: what is gathered, and whether the name is in. -/
def rstep (k v : Bs) (s : Vs × Bool) (x : Bs × Bs) : Vs × Bool :=
  ((s.1 ++ if (!s.2 && !bytesBefore x.1 k) = true then [(k, v)] else []) ++ if x.1 = k then [] else [x], s.2 || !bytesBefore x.1 k)
def rset (k v : Bs) (m : Vs) : Vs := if (m.foldl (rstep k v) ([], false)).2 = true then (m.foldl (rstep k v) ([], false)).1 else (m.foldl (rstep k v) ([], false)).1 ++ [(k, v)]
theorem fold_done (k v : Bs) : ∀ (m acc : Vs), m.foldl (rstep k v) (acc, true) = (acc ++ mdel k m, true)
  | [], acc => by simp [mdel]
  | x :: m, acc => by
    have h := fold_done k v m
    rw [List.foldl_cons]
    by_cases hx : x.1 = k
    · have e : rstep k v (acc, true) x = (acc, true) := by simp [rstep, hx]
      rw [e, h]; simp [mdel, hx]
    · have e : rstep k v (acc, true) x = (acc ++ [x], true) := by simp [rstep, hx]
      rw [e, h]; simp [mdel, hx]
theorem vins_front {k v : Bs} : ∀ {m : Vs}, (∀ p ∈ m, bytesBefore k p.1 = true) → vins (k, v) m = (k, v) :: m
  | [], _ => rfl
  | y :: r, h => by rw [vins, if_pos (h y List.mem_cons_self)]
theorem fold_set (k v : Bs) : ∀ (m acc : Vs), Rising m → (if (m.foldl (rstep k v) (acc, false)).2 = true then (m.foldl (rstep k v) (acc, false)).1 else (m.foldl (rstep k v) (acc, false)).1 ++ [(k, v)]) = acc ++ mset k v m
  | [], acc, _ => by simp [mset, mdel, vins]
  | x :: m, acc, hr => by
    have hm : Rising m := (List.pairwise_cons.1 hr).2
    have hx := (List.pairwise_cons.1 hr).1
    rw [List.foldl_cons]
    cases hb : bytesBefore x.1 k with
    | true =>
      have hne : x.1 ≠ k := bef_ne hb
      have e : rstep k v (acc, false) x = (acc ++ [x], false) := by simp [rstep, hb, hne]
      rw [e, fold_set k v m (acc ++ [x]) hm]
      have hnk : bytesBefore k x.1 = false := by
        cases h : bytesBefore k x.1
        · rfl
        · have := bef_tr hb h
          rw [bef_irr] at this; cases this
      have hd : mdel k (x :: m) = x :: mdel k m := by simp [mdel, hne]
      unfold mset
      rw [hd, vins, if_neg (by simp [hnk])]
      simp
    | false =>
      by_cases hxk : x.1 = k
      · have e : rstep k v (acc, false) x = (acc ++ [(k, v)], true) := by simp [rstep, hxk, bef_irr]
        rw [e, fold_done]
        have hd : mdel k (x :: m) = mdel k m := by simp [mdel, hxk]
        unfold mset
        rw [hd, vins_front (fun p hp => by rw [← hxk]; exact hx p ((List.mem_filter.1 hp).1))]
        simp
      · have e : rstep k v (acc, false) x = (acc ++ [(k, v)] ++ [x], true) := by simp [rstep, hxk, hb]
        rw [e, fold_done]
        have hk : bytesBefore k x.1 = true := by
          rcases bef_tot hxk with h | h
          · rw [hb] at h; cases h
          · exact h
        have hd : mdel k (x :: m) = x :: mdel k m := by simp [mdel, hxk]
        unfold mset
        rw [hd, vins, if_pos hk]
        simp
theorem rset_eq {k v : Bs} {m : Vs} (hr : Rising m) : rset k v m = mset k v m := by
  have := fold_set k v m [] hr
  rw [List.nil_append] at this
  exact this
/-- A round more. -/
theorem fold_snoc (k v : Bs) (m : Vs) (x : Bs × Bs) : (m ++ [x]).foldl (rstep k v) ([], false) = rstep k v (m.foldl (rstep k v) ([], false)) x := by
  rw [List.foldl_append]; rfl
theorem mdel_snoc (k : Bs) (m : Vs) (x : Bs × Bs) : mdel k (m ++ [x]) = mdel k m ++ if x.1 = k then [] else [x] := by
  by_cases h : x.1 = k <;> simp [mdel, h]
theorem fold_len (k v : Bs) : ∀ (m : Vs) (s : Vs × Bool), (m.foldl (rstep k v) s).1.length ≤ s.1.length + 2 * m.length
  | [], s => by simp
  | x :: m, s => by
    rw [List.foldl_cons]
    have h := fold_len k v m (rstep k v s x)
    have h2 : (rstep k v s x).1.length ≤ s.1.length + 2 := by
      unfold rstep
      simp only [List.length_append]
      split <;> split <;> simp
    simp only [List.length_cons]
    omega
end Go.Proofs.YtjllmamblkejjaaGreatDoor
end

/- The document's Unset, over a row of variables. Conditions: at most a million variables, names of at most 10^9 bytes. -/
section
set_option linter.unusedVariables false
set_option linter.unusedSimpArgs false
namespace Go.Proofs.YtjllmamblkejjaaGreatDoor
open Go.RowKit Go.Proofs.YtjllmamblkejjaaGreatDoorW.PrintWords Go.Proofs.YtjllmamblkejjaaGreatDoorW.PrintLast Go.Proofs.YtjllmamblkejjaaGreatDoorW.PrintMore
open PQA Sp Go.WideShapes

theorem wp_varT {T : TypeId} (hT : Tryz.prog.underlying T = some (.slice 89)) {ops : Array Oper} {rest : List Oper} {o : Oper} {a : Act} {Q : Exit → Act → World → Prop} {W : World} (hgd : o.guard = none) (s x : Operand)
    (ho : o.op = .call { callee := .builtin .append, args := #[s, x], argTypes := #[T, T] })
    (base : Nat) (v : Value) (n : Nat) (xs ys : List Value) (hs : a.eval s = v) (HO : W.ownsRow base 89 2 v n xs) (B : Nat) (hB : W.heap.size = B) (hx : a.eval x = .slice (some ⟨B, 0, none⟩) 1 1) (hys : ys.length = 2) (h1 : ∀ u ∈ ys, u.oneCell' = true)
    (hbase : base ≤ W.heap.size) (hl : n ≤ 4000000)
    (h : ∀ v1 w1, w1.ownsRow base 89 2 v1 (n + 1) (xs ++ ys) → W.grownBy w1 v.ownBlock → (v1.ownBlock = v.ownBlock ∨ ∃ b, v1.ownBlock = some b ∧ W.heap.size ≤ b) → wpList Tryz.prog ops Q rest (a.put o.dst v1) w1) :
    wpList Tryz.prog ops Q (o :: rest) a (W.alloc (.cells ys.toArray 89)) := by
  refine wpList_plain hgd fun K hK => ?_
  subst hB
  obtain ⟨i0, hi, hz0, hz1, hz2⟩ := info_parts infoV
  obtain ⟨v1, w1, hr, hown, hg, _, hat⟩ := run_append_own_at (P := Tryz.prog) (W.alloc (.cells ys.toArray 89)) base T o.type 89 i0 _ 2 32 hT hi hz0 hz1 hz2 rfl (by omega) v n xs (HO.alloc _) ⟨W.heap.size, 0, none⟩ 1 1 ys (by rw [hys])
    (by simpa using World.news_of_block (cs := ys.toArray) (t := 89) (fr := (0, 0)) (heap_alloc_new W (.cells ys.toArray 89))) h1 (by simp only [maxLen]; omega) (by omega) (by simp; omega)
  unfold Oper.wp execOp
  simp only [ho, resolve, invoke, builtin, Sem.run_bind, Sem.run_pure, Result.andThen_ok, List.map_toArray, List.map_cons, List.map_nil, hs, hx, hr]
  refine hK _ _ (h v1 w1 hown (World.grownBy.trans (World.grownBy_alloc W _ _) hg) ?_)
  rcases hat with hat | hat
  · exact .inl hat
  · exact .inr ⟨_, hat, by simp⟩

/-- Where a loop that gathers variables stands: it began over w0. -/
structure GathLoop (w0 : World) (out : Vs) (v : Value) (wr : World) : Prop where
  row : wr.ownsRow w0.heap.size 89 2 v out.length (vflat out)
  below : Below w0.heap.size w0 wr

set_option maxHeartbeats 4000000 in
set_option maxRecDepth 100000 in
theorem refUnset_calls (A : Option Addr) (c : Nat) (m : Vs) (k : Bs) (w : World) (h : RowV w A m) (hl : m.length ≤ 1000000) :
    Calls Tryz.prog 29 #[.slice A m.length c, .string (mk k)] w fun e w' => ∃ v, e = .returned v ∧ w'.ownsRow w.heap.size 89 2 v (mdel k m).length (vflat (mdel k m)) ∧ Below w.heap.size w w' := by
  generalize hn : m.length = n at *
  have HA := Aside0.mk h
  have HN := Aside0.mk hn
  clear h hn
  have HL := Aside0.mk (GathLoop.mk (w0 := w) (out := []) (v := .slice none 0 0) (wr := w) ⟨rfl, .inl ⟨rfl, rfl⟩⟩ (Below.refl _ _))
  go_enter Tryz.func29, Tryz.ntmps29
  go_wp2_with fail
  go_loopg [5, 10] n (fun gk v5 v10 wr => ∃ i : Nat, v10 = .int .i64 (i : Int) ∧ i ≤ n ∧ gk = n - i ∧ Aside0 (GathLoop w (mdel k (m.take i)) v5 wr))
  case atStart => exact ⟨0, rfl, by omega, rfl, HL⟩
  case round =>
    obtain ⟨i, rfl, hi, hgk, HC⟩ := hrel
    clear HL
    obtain ⟨how, hbel⟩ := HC.out
    by_cases hin : i < n
    · have him : i < m.length := by rw [HN.out]; exact hin
      obtain ⟨q, rfl, hq, ha, hb⟩ := HA.out i _ (List.getElem?_eq_getElem him)
      have xa := (World.cell?_of_block (w := w) (a := ⟨q, i * 2, none⟩) (hbel.block q hq)).trans ha
      have xb := (World.cell?_of_block (w := w) (a := ⟨q, i * 2 + 1, none⟩) (hbel.block q hq)).trans hb
      have HT := Aside0.mk (show mdel k (m.take (i + 1)) = mdel k (m.take i) ++ if (m[i]).1 = k then [] else [m[i]] by rw [List.take_succ_eq_append_getElem him, mdel_snoc])
      have hlen : (mdel k (m.take i)).length ≤ 1000000 := by
        have h1 : (mdel k (m.take i)).length ≤ (m.take i).length := List.length_filter_le _ _
        have h2 : (m.take i).length ≤ i := by rw [List.length_take]; omega
        omega
      generalize m[i] = x at *
      generalize mdel k (m.take i) = out at *
      have hws := hbel.size
      have HO := Aside0.mk how
      have HB := Aside0.mk hbel
      clear how hbel ha hb hq HC him
      by_cases hk : x.1 = k
      · have hf : (mk x.1).toList = (mk k).toList := by rw [hk]
        have HK := Aside0.mk hk
        clear hk
        go_wp2_with fail
        go_roundg (n - (i + 1))
        case measure => omega
        case rel =>
          have ht := HT.out
          rw [if_pos HK.out, List.append_nil] at ht
          refine ⟨i + 1, by go_num, by omega, rfl, ⟨⟨?_, below_alloc HB.out _⟩⟩⟩
          rw [ht]; exact HO.out.alloc _
      · have hf : ((mk x.1).toList == (mk k).toList) = false := by rw [mk_toList, mk_toList]; simpa using hk
        have HK := Aside0.mk hk
        clear hk
        have HO1 := Aside0.mk (HO.out.alloc (.cells #[.string (mk x.1), .string (mk x.2)] 89))
        go_wp2_with (at_builtin; refine wp_varT Tryz.underlying39 rfl (.tmp 18) (.tmp 20) rfl w.heap.size u5 out.length (vflat out) [.string (mk x.1), .string (mk x.2)] rfl HO1.out (wr.heap.size + 1) (by simp) rfl rfl (by simp [Value.oneCell']) (by simp; omega) (by omega) ?_; intro v1 w6 ho6 hg6 hat6; have HO6 := Aside0.mk ho6; have HG6 := Aside0.mk hg6; clear ho6 hg6 hat6)
        go_roundg (n - (i + 1))
        case measure => omega
        case rel =>
          have ht := HT.out
          rw [if_neg HK.out] at ht
          refine ⟨i + 1, by go_num, by omega, rfl, ⟨⟨?_, grown_below (below_alloc HB.out _) HG6.out (by simp; omega) (fun q hq => (own_lt HO.out q hq).1)⟩⟩⟩
          rw [ht, vflat_snoc, List.length_append]; exact HO6.out
    · go_wp2_with fail
      obtain rfl : i = n := by omega
      have h1 : m.take i = m := List.take_of_length_le (Nat.le_of_eq HN.out)
      rw [h1] at how
      refine bodyPost_ret (v := u5) (by simp [results, Tryz.results29, go_sem]) rfl ?_
      exact ⟨_, rfl, how, hbel⟩
end Go.Proofs.YtjllmamblkejjaaGreatDoor
end

/- The document's Set, over a row of variables. Conditions: at most a million variables. -/
section
set_option linter.unusedVariables false
set_option linter.unusedSimpArgs false
namespace Go.Proofs.YtjllmamblkejjaaGreatDoor
open Go.RowKit Go.Proofs.YtjllmamblkejjaaGreatDoorW.PrintWords Go.Proofs.YtjllmamblkejjaaGreatDoorW.PrintLast Go.Proofs.YtjllmamblkejjaaGreatDoorW.PrintMore
open PQA Sp Go.WideShapes

theorem less_bef : ∀ a b : Bs, Op.bytesLess a b = bytesBefore a b
  | [], [] => rfl
  | [], _ :: _ => rfl
  | _ :: _, [] => rfl
  | a :: r, b :: s => by
    show (decide (a < b) || (a == b && Op.bytesLess r s)) = (decide (a < b) || (a == b && bytesBefore r s))
    rw [less_bef r s]
set_option maxHeartbeats 4000000 in
set_option maxRecDepth 100000 in
theorem refSet_calls (A : Option Addr) (c : Nat) (m : Vs) (k v : Bs) (w : World) (h : RowV w A m) (hl : m.length ≤ 1000000) :
    Calls Tryz.prog 19 #[.slice A m.length c, .string (mk k), .string (mk v)] w fun e w' => ∃ r, e = .returned r ∧ w'.ownsRow w.heap.size 89 2 r (rset k v m).length (vflat (rset k v m)) ∧ Below w.heap.size w w' := by
  generalize hn : m.length = n at *
  have HA := Aside0.mk h
  have HN := Aside0.mk hn
  clear h hn
  have HL := Aside0.mk (GathLoop.mk (w0 := w) (out := []) (v := .slice none 0 0) (wr := w) ⟨rfl, .inl ⟨rfl, rfl⟩⟩ (Below.refl _ _))
  go_enter Tryz.func19, Tryz.ntmps19
  go_wp2_with fail
  go_loopg [7, 8, 13] n (fun gk v7 v8 v13 wr => ∃ i : Nat, v13 = .int .i64 (i : Int) ∧ i ≤ n ∧ gk = n - i ∧ ∃ out dn, v8 = .bool dn ∧ Aside0 ((m.take i).foldl (rstep k v) ([], false) = (out, dn)) ∧ Aside0 (GathLoop w out v7 wr))
  case atStart => exact ⟨0, rfl, by omega, rfl, [], false, rfl, ⟨rfl⟩, HL⟩
  case round =>
    obtain ⟨i, rfl, hi, hgk, out, dn, rfl, HF, HC⟩ := hrel
    clear HL
    obtain ⟨how, hbel⟩ := HC.out
    by_cases hin : i < n
    · have him : i < m.length := by rw [HN.out]; exact hin
      obtain ⟨q, rfl, hq, ha, hb⟩ := HA.out i _ (List.getElem?_eq_getElem him)
      have xa := (World.cell?_of_block (w := w) (a := ⟨q, i * 2, none⟩) (hbel.block q hq)).trans ha
      have xb := (World.cell?_of_block (w := w) (a := ⟨q, i * 2 + 1, none⟩) (hbel.block q hq)).trans hb
      have HT := Aside0.mk (show (m.take (i + 1)).foldl (rstep k v) ([], false) = rstep k v (out, dn) m[i] by rw [List.take_succ_eq_append_getElem him, fold_snoc, HF.out])
      have hlen : out.length ≤ 2000000 := by
        have h1 := fold_len k v (m.take i) ([], false)
        rw [HF.out] at h1
        have h2 : (m.take i).length ≤ i := by rw [List.length_take]; omega
        simp at h1
        omega
      generalize m[i] = x at *
      have hws := hbel.size
      have HO := Aside0.mk how
      have HB := Aside0.mk hbel
      clear how hbel ha hb hq HC him HF
      have hws1 : w.heap.size ≤ (wr.alloc (.cells #[.string (mk x.1), .string (mk x.2)] 89)).heap.size := by simp; omega
      have HO1 := Aside0.mk (HO.out.alloc (.cells #[.string (mk x.1), .string (mk x.2)] 89))
      have HB1 := Aside0.mk (below_alloc HB.out (.cells #[.string (mk x.1), .string (mk x.2)] 89))
      cases dn
      · cases hbf : bytesBefore x.1 k with
        | true =>
          have hls : Op.bytesLess (mk x.1).toList (mk k).toList = true := by rw [mk_toList, mk_toList, less_bef]; exact hbf
          have hf : ((mk x.1).toList == (mk k).toList) = false := by rw [mk_toList, mk_toList]; simpa using bef_ne hbf
          have HBF := Aside0.mk hbf
          clear hbf
          go_wp2_with (at_builtin; refine wp_varT Tryz.underlying39 rfl (.tmp 35) (.tmp 37) rfl w.heap.size u7 out.length (vflat out) [.string (mk x.1), .string (mk x.2)] rfl HO1.out (wr.heap.size + 1) (by simp) rfl rfl (by simp [Value.oneCell']) hws1 (by omega) ?_; intro v1 w6 ho6 hg6 hat6; have HO6 := Aside0.mk ho6; have HG6 := Aside0.mk hg6; clear ho6 hg6 hat6)
          go_roundg (n - (i + 1))
          case measure => omega
          case rel =>
            have ht : (m.take (i + 1)).foldl (rstep k v) ([], false) = (out ++ [x], false) := by rw [HT.out]; simp [rstep, HBF.out, bef_ne HBF.out]
            exact ⟨i + 1, by go_num, by omega, rfl, out ++ [x], false, rfl, ⟨ht⟩, ⟨⟨by rw [vflat_snoc, List.length_append]; exact HO6.out, grown_below HB1.out HG6.out hws1 (fun q hq => (own_lt HO.out q hq).1)⟩⟩⟩
        | false =>
          have hls : Op.bytesLess (mk x.1).toList (mk k).toList = false := by rw [mk_toList, mk_toList, less_bef]; exact hbf
          have HBF := Aside0.mk hbf
          clear hbf
          by_cases hk : x.1 = k
          · have hf : ((mk x.1).toList == (mk k).toList) = true := by rw [mk_toList, mk_toList]; simpa using hk
            have HK := Aside0.mk hk
            clear hk
            go_wp2_with (at_builtin; refine wp_varT Tryz.underlying39 rfl (.tmp 25) (.tmp 29) rfl w.heap.size u7 out.length (vflat out) [.string (mk k), .string (mk v)] rfl HO1.out (wr.heap.size + 1) (by simp) rfl rfl (by simp [Value.oneCell']) hws1 (by omega) ?_; intro v1 w6 ho6 hg6 hat6; have hx6 : w6.cell? ⟨wr.heap.size, 0, none⟩ = some (.string (mk x.1)) := (blk_cell ((hg6.block wr.heap.size (by simp) (by intro e; have := (own_lt HO.out _ e.symm).2; omega)).trans (heap_new rfl _)) 0).trans rfl; have HO6 := Aside0.mk ho6; have HG6 := Aside0.mk hg6; clear ho6 hg6 hat6)
            go_roundg (n - (i + 1))
            case measure => omega
            case rel =>
              have ht : (m.take (i + 1)).foldl (rstep k v) ([], false) = (out ++ [(k, v)], true) := by rw [HT.out]; simp [rstep, HK.out, bef_irr]
              exact ⟨i + 1, by go_num, by omega, rfl, out ++ [(k, v)], true, rfl, ⟨ht⟩, ⟨⟨by rw [vflat_snoc, List.length_append]; exact HO6.out, grown_below HB1.out HG6.out hws1 (fun q hq => (own_lt HO.out q hq).1)⟩⟩⟩
          · have hf : ((mk x.1).toList == (mk k).toList) = false := by rw [mk_toList, mk_toList]; simpa using hk
            have HK := Aside0.mk hk
            clear hk
            go_wp2_with (at_builtin; first | (refine wp_varT Tryz.underlying39 rfl (.tmp 25) (.tmp 29) rfl w.heap.size u7 out.length (vflat out) [.string (mk k), .string (mk v)] rfl HO1.out (wr.heap.size + 1) (by simp) rfl rfl (by simp [Value.oneCell']) hws1 (by omega) ?_; intro v1 w6 ho6 hg6 hat6; have hbx : w6.heap[wr.heap.size]? = some (.cells #[.string (mk x.1), .string (mk x.2)] 89 (0, 0)) := (hg6.block wr.heap.size (by simp) (by intro e; have := (own_lt HO.out _ e.symm).2; omega)).trans (heap_new rfl _); have hx6 : w6.cell? ⟨wr.heap.size, 0, none⟩ = some (.string (mk x.1)) := (blk_cell hbx 0).trans rfl; have hx7 : w6.cell? ⟨wr.heap.size, 1, none⟩ = some (.string (mk x.2)) := (blk_cell hbx 1).trans rfl; have hs6 := hg6.size; have hs7 : w.heap.size ≤ w6.heap.size := (by simp at hs6; omega); have HO6 := Aside0.mk ho6; have HG6 := Aside0.mk hg6; have HB6 := Aside0.mk (grown_below HB1.out hg6 hws1 (fun q hq => (own_lt HO.out q hq).1)); clear ho6 hg6 hat6 hbx hs6) | (refine wp_varT Tryz.underlying39 rfl (.tmp 35) (.tmp 37) rfl w.heap.size v1 (out.length + 1) (vflat out ++ [.string (mk k), .string (mk v)]) [.string (mk x.1), .string (mk x.2)] rfl HO6.out w6.heap.size rfl rfl rfl (by simp [Value.oneCell']) hs7 (by omega) ?_; intro v2 w7 ho7 hg7 hat7; have HO7 := Aside0.mk ho7; have HG7 := Aside0.mk hg7; clear ho7 hg7 hat7))
            go_roundg (n - (i + 1))
            case measure => omega
            case rel =>
              have ht : (m.take (i + 1)).foldl (rstep k v) ([], false) = (out ++ [(k, v)] ++ [x], true) := by rw [HT.out]; simp [rstep, HK.out, HBF.out]
              exact ⟨i + 1, by go_num, by omega, rfl, out ++ [(k, v)] ++ [x], true, rfl, ⟨ht⟩, ⟨⟨by rw [vflat_snoc, vflat_snoc, List.length_append, List.length_append]; exact HO7.out, grown_below HB6.out HG7.out hs7 (fun q hq => (own_lt HO6.out q hq).1)⟩⟩⟩
      · by_cases hk : x.1 = k
        · have hf : ((mk x.1).toList == (mk k).toList) = true := by rw [mk_toList, mk_toList]; simpa using hk
          have HK := Aside0.mk hk
          clear hk
          go_wp2_with fail
          go_roundg (n - (i + 1))
          case measure => omega
          case rel =>
            have ht : (m.take (i + 1)).foldl (rstep k v) ([], false) = (out, true) := by rw [HT.out]; simp [rstep, HK.out]
            exact ⟨i + 1, by go_num, by omega, rfl, out, true, rfl, ⟨ht⟩, ⟨⟨HO1.out, HB1.out⟩⟩⟩
        · have hf : ((mk x.1).toList == (mk k).toList) = false := by rw [mk_toList, mk_toList]; simpa using hk
          have HK := Aside0.mk hk
          clear hk
          go_wp2_with (at_builtin; refine wp_varT Tryz.underlying39 rfl (.tmp 35) (.tmp 37) rfl w.heap.size u7 out.length (vflat out) [.string (mk x.1), .string (mk x.2)] rfl HO1.out (wr.heap.size + 1) (by simp) rfl rfl (by simp [Value.oneCell']) hws1 (by omega) ?_; intro v1 w6 ho6 hg6 hat6; have HO6 := Aside0.mk ho6; have HG6 := Aside0.mk hg6; clear ho6 hg6 hat6)
          go_roundg (n - (i + 1))
          case measure => omega
          case rel =>
            have ht : (m.take (i + 1)).foldl (rstep k v) ([], false) = (out ++ [x], true) := by rw [HT.out]; simp [rstep, HK.out]
            exact ⟨i + 1, by go_num, by omega, rfl, out ++ [x], true, rfl, ⟨ht⟩, ⟨⟨by rw [vflat_snoc, List.length_append]; exact HO6.out, grown_below HB1.out HG6.out hws1 (fun q hq => (own_lt HO.out q hq).1)⟩⟩⟩
    · obtain rfl : i = n := by omega
      have h1 : m.take i = m := List.take_of_length_le (Nat.le_of_eq HN.out)
      have hf := HF.out
      rw [h1] at hf
      have hlen : out.length ≤ 2000000 := by
        have h2 := fold_len k v m ([], false)
        rw [hf, HN.out] at h2
        simp at h2
        omega
      have HFF := Aside0.mk hf
      have HO := Aside0.mk how
      have HB := Aside0.mk hbel
      have hws := hbel.size
      clear how hbel hf HC HF h1
      cases dn
      · go_wp2_with (at_builtin; refine wp_varT Tryz.underlying39 rfl (.tmp 42) (.tmp 46) rfl w.heap.size u7 out.length (vflat out) [.string (mk k), .string (mk v)] rfl HO.out wr.heap.size rfl rfl rfl (by simp [Value.oneCell']) hws (by omega) ?_; intro v1 w6 ho6 hg6 hat6; have HO6 := Aside0.mk ho6; have HG6 := Aside0.mk hg6; clear ho6 hg6 hat6)
        refine bodyPost_ret (v := v1) (by simp [results, Tryz.results19, go_sem]) rfl ⟨_, rfl, ?_, grown_below HB.out HG6.out hws (fun q hq => (own_lt HO.out q hq).1)⟩
        have hr : rset k v m = out ++ [(k, v)] := by unfold rset; rw [HFF.out]; simp
        rw [hr, vflat_snoc, List.length_append]; exact HO6.out
      · go_wp2_with fail
        refine bodyPost_ret (v := u7) (by simp [results, Tryz.results19, go_sem]) rfl ⟨_, rfl, ?_, HB.out⟩
        have hr : rset k v m = out := by unfold rset; rw [HFF.out]; simp
        rw [hr]; exact HO.out
end Go.Proofs.YtjllmamblkejjaaGreatDoor
end

/- (*acode.Vars).Copy: variables of their own that are the same. No conditions. -/
section
set_option linter.unusedVariables false
set_option linter.unusedSimpArgs false
namespace Go.Proofs.YtjllmamblkejjaaGreatDoor
open Go.RowKit Go.Proofs.YtjllmamblkejjaaGreatDoorW.PrintWords Go.Proofs.YtjllmamblkejjaaGreatDoorW.PrintLast Go.Proofs.YtjllmamblkejjaaGreatDoorW.PrintMore
open PQA Sp Go.WideShapes

set_option maxHeartbeats 4000000 in
set_option maxRecDepth 100000 in
theorem copy_calls (g bv : Nat) (m : Vs) (w : World) (h : VarsIn w g bv m) :
    Calls Tryz.prog 17 #[.pointer (some ⟨g, 0, none⟩)] w fun e w' => ∃ g' bv', e = .returned (.pointer (some ⟨g', 0, none⟩)) ∧ VarsIn w' g' bv' m ∧ w.heap.size ≤ g' ∧ w.heap.size ≤ bv' ∧ Below w.heap.size w w' := by
  have hc : w.cell? ⟨g, 0, none⟩ = some (.map (some bv)) := (blk_cell h.blk 0).trans rfl
  have hcl : Calls Tryz.prog 43 #[.map (some bv)] w fun e w' => e = .returned (.map (some w.heap.size)) ∧ w'.ownsMap Tryz.prog 9 (plainElem Tryz.prog 9) w.heap.size m.length (dat m) ∧ w'.ownsMap Tryz.prog 9 (plainElem Tryz.prog 9) bv m.length (dat m) ∧ Below w.heap.size w w' :=
    AnyW.maps_Clone_owns Tryz.clone43 _ _ bv m.length (dat m) w h.map
  have HCL := Aside0.mk hcl
  have HV := Aside0.mk h
  clear h hcl
  go_enter Tryz.func17, Tryz.ntmps17
  go_wp2_with fail
  with_reducible refine HCL.out.mono ?_
  rintro e w1 ⟨rfl, hm, _, hb⟩
  have HM := Aside0.mk hm
  have HB := Aside0.mk hb
  have hlt := World.ownsMap.lt hm
  clear hm hb
  all_goals try clear ‹w1.ownsMap _ _ _ bv _ _›
  go_wp2_with fail
  go_ret
  refine ⟨w1.heap.size, w.heap.size, rfl, ⟨heap_new rfl _, VMap.at (VMap.ofn HM.out) (Below.heap_alloc _ _ _ hlt), HV.out.rising, HV.out.len, HV.out.names, HV.out.vals⟩, HB.out.size, Nat.le_refl _, below_alloc HB.out _⟩
end Go.Proofs.YtjllmamblkejjaaGreatDoor
end

/- A row of the call's own as a row of variables; what the laws' laid lays. No conditions. -/
section
set_option linter.unusedVariables false
set_option linter.unusedSimpArgs false
namespace Go.Proofs.YtjllmamblkejjaaGreatDoor
open Go.RowKit Go.Proofs.YtjllmamblkejjaaGreatDoorW.PrintWords Go.Proofs.YtjllmamblkejjaaGreatDoorW.PrintLast Go.Proofs.YtjllmamblkejjaaGreatDoorW.PrintMore
open PQA Sp Go.WideShapes

theorem vflat_at : ∀ (m : Vs) (i : Nat) (x : Bs × Bs), m[i]? = some x → (vflat m)[i * 2]? = some (.string (mk x.1)) ∧ (vflat m)[i * 2 + 1]? = some (.string (mk x.2))
  | y :: m, 0, x, h => by
    simp only [List.getElem?_cons_zero, Option.some.injEq] at h
    subst h
    exact ⟨rfl, rfl⟩
  | y :: m, i + 1, x, h => by
    have ih := vflat_at m i x (by simpa using h)
    have e : vflat (y :: m) = Value.string (mk y.1) :: Value.string (mk y.2) :: vflat m := rfl
    rw [e, show (i + 1) * 2 = i * 2 + 1 + 1 by omega]
    exact ⟨by simpa using ih.1, by simpa using ih.2⟩
  | [], i, x, h => by simp at h
/-- A row of the call's own reads as its variables. -/
theorem rowV_own {w : World} {base : Nat} {v : Value} {m : Vs} (h : w.ownsRow base 89 2 v m.length (vflat m)) : ∃ A c, v = .slice A m.length c ∧ RowV w A m := by
  rcases Nat.eq_zero_or_pos m.length with h0 | hn
  · have hm : m = [] := List.length_eq_zero_iff.1 h0
    rcases h.2 with ⟨h1, h2⟩ | ⟨g, cap, cur, hv, _⟩
    · exact ⟨none, 0, by rw [h0]; exact h1, fun i x hx => by rw [hm] at hx; simp at hx⟩
    · exact ⟨some ⟨g, 0, none⟩, cap, hv, fun i x hx => by rw [hm] at hx; simp at hx⟩
  · obtain ⟨g, cap, rfl, hge, hlt⟩ := World.ownsRow.form h hn
    refine ⟨some ⟨g, 0, none⟩, cap, rfl, fun i x hx => ⟨g, rfl, hlt, ?_, ?_⟩⟩
    · have hi := (List.getElem?_eq_some_iff.1 hx).1
      rw [h.cellAt (i * 2) (by omega)]; exact (vflat_at m i x hx).1
    · have hi := (List.getElem?_eq_some_iff.1 hx).1
      rw [h.cellAt (i * 2 + 1) (by omega)]; exact (vflat_at m i x hx).2

/-- What laid comes to. -/
def layV (l : Vs) : Vs := l.foldl (fun m p => if isName p.1 then mset p.1 p.2 m else m) []
theorem layV_snoc (l : Vs) (p : Bs × Bs) : layV (l ++ [p]) = if isName p.1 then mset p.1 p.2 (layV l) else layV l := by
  unfold layV; rw [List.foldl_append]; rfl
theorem rising_lay : ∀ (l m : Vs), Rising m → Rising (l.foldl (fun m p => if isName p.1 then mset p.1 p.2 m else m) m)
  | [], m, h => h
  | p :: l, m, h => by
    rw [List.foldl_cons]
    refine rising_lay l _ ?_
    split
    · exact rising_set h
    · exact h
theorem layV_rising (l : Vs) : Rising (layV l) := rising_lay l [] List.Pairwise.nil
end Go.Proofs.YtjllmamblkejjaaGreatDoor
end

/- The laws' laid. Conditions: names and values of at most 10^9 bytes. -/
section
set_option linter.unusedVariables false
set_option linter.unusedSimpArgs false
namespace Go.Proofs.YtjllmamblkejjaaGreatDoor
open Go.RowKit Go.Proofs.YtjllmamblkejjaaGreatDoorW.PrintWords Go.Proofs.YtjllmamblkejjaaGreatDoorW.PrintLast Go.Proofs.YtjllmamblkejjaaGreatDoorW.PrintMore
open PQA Sp Go.WideShapes

/-- Variables that came in. -/
def RowL (w : World) (A : Option Addr) (l : Vs) : Prop := ∀ i x, l[i]? = some x → ∃ ad, A = some ad ∧ ad.block < w.heap.size ∧ w.cell? (ad.add (i * 2)) = some (.string (mk x.1)) ∧ w.cell? ⟨(ad.add (i * 2)).block, (ad.add (i * 2)).off + 1, none⟩ = some (.string (mk x.2))
structure LaidLoop (w : World) (g bv : Nat) (m : Vs) (vm : Value) (wr : World) : Prop where
  vars : VarsIn wr g bv m
  row : wr.ownsRow w.heap.size 89 2 vm m.length (vflat m)
  below : Below w.heap.size w wr
  ge : w.heap.size ≤ g ∧ w.heap.size ≤ bv
/-- One of those, in any world behind. -/
def OneL (w : World) (ad : Addr) (i : Nat) (x : Bs × Bs) : Prop := w.cell? (ad.add (i * 2)) = some (.string (mk x.1)) ∧ w.cell? ⟨(ad.add (i * 2)).block, (ad.add (i * 2)).off + 1, none⟩ = some (.string (mk x.2))
theorem OneL.below {w W : World} {ad : Addr} {i : Nat} {x : Bs × Bs} (h : OneL w ad i x) (hq : ad.block < w.heap.size) (hb : Below w.heap.size w W) : OneL W ad i x := by
  have hB : W.heap[(ad.add (i * 2)).block]? = w.heap[(ad.add (i * 2)).block]? := by rw [Go.ChangeShapes.block_add]; exact hb.block _ hq
  exact ⟨(World.cell?_of_block (w := w) (a := ad.add (i * 2)) hB).trans h.1, (World.cell?_of_block (w := w) (a := ⟨(ad.add (i * 2)).block, (ad.add (i * 2)).off + 1, none⟩) hB).trans h.2⟩
theorem lay_len : ∀ (l m : Vs), (l.foldl (fun m p => if isName p.1 then mset p.1 p.2 m else m) m).length ≤ m.length + l.length
  | [], m => by simp
  | p :: l, m => by
    rw [List.foldl_cons]
    have h := lay_len l (if isName p.1 then mset p.1 p.2 m else m)
    have h2 : (if isName p.1 then mset p.1 p.2 m else m).length ≤ m.length + 1 := by
      split
      · exact len_mset _ _ _
      · omega
    simp only [List.length_cons]
    omega
set_option maxHeartbeats 4000000 in
set_option maxRecDepth 100000 in
theorem laid_calls (A : Option Addr) (c : Nat) (l : Vs) (w : World) (h : RowL w A l) (hs : ∀ p ∈ l, small p.1 ∧ small p.2) :
    Calls Tryz.prog 16 #[.slice A l.length c] w fun e w' => ∃ g bv vm, e = .returned (.tuple #[.pointer (some ⟨g, 0, none⟩), vm]) ∧ LaidLoop w g bv (layV (l.take 40)) vm w' := by
  generalize hn : l.length = n at *
  have HA := Aside0.mk h
  have HN := Aside0.mk hn
  have HS := Aside0.mk hs
  clear h hn hs
  go_enter Tryz.func16, Tryz.ntmps16
  go_wp2_with fail
  with_reducible refine (new_calls _).mono ?_
  rintro e w1 ⟨g, bv, rfl, hv, hg, hbv, hb⟩
  have HL := Aside0.mk (LaidLoop.mk (w := w) (m := []) (vm := .slice none 0 0) hv ⟨rfl, .inl ⟨rfl, rfl⟩⟩ hb ⟨hg, hbv⟩)
  clear hv hg hbv hb
  go_wp2_with fail
  go_loopg [5, 6] n (fun gk v5 v6 wr => ∃ i : Nat, v6 = .int .i64 (i : Int) ∧ i ≤ n ∧ i ≤ 40 ∧ gk = n - i ∧ Aside0 (LaidLoop w g bv (layV (l.take i)) v5 wr))
  case atStart => exact ⟨0, rfl, by omega, by omega, rfl, HL⟩
  case round =>
    obtain ⟨i, rfl, hi, hi4, hgk, HC⟩ := hrel
    clear HL
    by_cases hin : i < n ∧ i < 40
    · have him : i < l.length := by rw [HN.out]; exact hin.1
      obtain ⟨ad, rfl, hq, ha, hb⟩ := HA.out i _ (List.getElem?_eq_getElem him)
      have HO : Aside0 (∀ W, Below w.heap.size w W → OneL W ad i l[i]) := ⟨fun W hW => OneL.below ⟨ha, hb⟩ hq hW⟩
      obtain ⟨xa, xb⟩ := HO.out wr HC.out.below
      have HT := Aside0.mk (show layV (l.take (i + 1)) = if isName (l[i]).1 then mset (l[i]).1 (l[i]).2 (layV (l.take i)) else layV (l.take i) by rw [List.take_succ_eq_append_getElem him, layV_snoc])
      have HX := Aside0.mk (HS.out _ (List.getElem_mem him))
      generalize l[i] = x at *
      obtain ⟨hin1, hin2⟩ := hin
      clear ha hb hq him
      have hm4 : (layV (l.take i)).length ≤ 40 := by
        have h1 := lay_len (l.take i) []
        have h2 : (l.take i).length ≤ i := by rw [List.length_take]; omega
        unfold layV
        simp at h1 h2 ⊢
        omega
      generalize layV (l.take i) = m at *
      obtain ⟨A5, c5, rfl, hrv⟩ := rowV_own HC.out.row
      have HRV := Aside0.mk hrv
      clear hrv
      by_cases hnm : isName x.1
      · have HNM := Aside0.mk hnm
        have HX63 : Aside0 (x.1.length ≤ 140737488355328) := ⟨by have := HX.out.1; unfold small at this; omega⟩
        have HRV5 : ∀ w5, VarsIn w5 g bv (mset x.1 x.2 m) → wr.drew.grownBy w5 (some bv) → RowV w5 A5 m := fun w5 _ hg5 => by
          have hne := own_neo HC.out.row (VMap.obj HC.out.vars.map).choose_spec.choose_spec (by intro cs; simp)
          obtain ⟨A', c', e1, hr'⟩ := rowV_own (own_keep (w' := w5) HC.out.row (fun q hq hlt => hg5.block q hlt (fun e => hne (by rw [hq]; exact e.symm))))
          obtain ⟨rfl, _⟩ : A' = A5 ∧ c' = c5 := by simpa [eq_comm] using e1
          exact hr'
        have HSet := Aside0.mk (set_ok g bv m x.1 x.2 wr.drew (HC.out.vars.keep rfl rfl) HX.out.1 HX.out.2 hnm (by omega))
        clear hnm
        go_wp2_with fail
        go_region_law ((rw [if_pos (by simp [Region.wanted])]; go_simp; go_at_call 27; ((with_reducible refine HSet.out.mono ?_); rintro e w5 ⟨rfl, hv5, hg5⟩; have HV5 := Aside0.mk hv5; have HG5 := Aside0.mk hg5; clear hv5 hg5)))
        all_goals
          have HB5 := Aside0.mk ((below_drew1 HC.out.below).grown HG5.out HC.out.below.size (fun q hq => by cases hq; exact HC.out.ge.2))
          obtain ⟨za, zb⟩ := HO.out w5 HB5.out
          clear xa xb
          go_wp2_with fail
          with_reducible refine (isName_calls x.1 _ HX63.out).mono ?_
          rintro e w6 ⟨bb, rfl, hiff, hb6⟩
          obtain rfl : bb = true := hiff.2 HNM.out
          have HB6 := Aside0.mk (below_then HB5.out HB5.out.size hb6)
          have HRV6 := Aside0.mk ((HRV5 _ HV5.out HG5.out).below hb6)
          have HV6 := Aside0.mk (HV5.out.below hb6)
          obtain ⟨ya, yb⟩ := HO.out w6 HB6.out
          clear hiff hb6 za zb
          have HRS := Aside0.mk (refSet_calls A5 c5 m x.1 x.2 w6.drew (HRV6.out.below (below_drew1 (Below.refl _ _))) (by omega))
          go_wp2_with fail
          go_region_law ((rw [if_pos (by simp [Region.wanted])]; go_simp; go_at_call 19; ((with_reducible refine HRS.out.mono ?_); rintro e w7 ⟨r, rfl, how7, hb7⟩; have HO7 := Aside0.mk how7; have HB7 := Aside0.mk hb7; clear how7 hb7)))
          all_goals
            go_wp2_with fail
            go_roundg (n - (i + 1))
            case measure => omega
            case rel =>
              have ht := HT.out
              rw [if_pos HNM.out] at ht
              have how := HO7.out
              have hB7 : Below w6.heap.size w6 w7 := (below_drew1 (Below.refl _ _)).trans HB7.out
              rw [rset_eq HC.out.vars.rising] at how
              refine ⟨i + 1, by go_num, by omega, by omega, rfl, ⟨⟨?_, ?_, below_then HB6.out HB6.out.size hB7, HC.out.ge⟩⟩⟩
              · rw [ht]; exact HV6.out.below hB7
              · rw [ht]; exact own_weaken how HB6.out.size
      · have HNM := Aside0.mk hnm
        have HX63 : Aside0 (x.1.length ≤ 140737488355328) := ⟨by have := HX.out.1; unfold small at this; omega⟩
        have HSet := Aside0.mk (set_not g bv m x.1 x.2 wr.drew (HC.out.vars.keep rfl rfl) HX.out.1 hnm)
        clear hnm
        go_wp2_with fail
        go_region_law ((rw [if_pos (by simp [Region.wanted])]; go_simp; go_at_call 27; ((with_reducible refine HSet.out.mono ?_); rintro e w5 ⟨rfl, hb5⟩; have HB5 := Aside0.mk hb5; clear hb5)))
        all_goals
          have hB5 : Below wr.heap.size wr w5 := (below_drew1 (Below.refl _ _)).trans HB5.out
          have HBW := Aside0.mk (below_then HC.out.below HC.out.below.size hB5)
          have HBR := Aside0.mk hB5
          obtain ⟨za, zb⟩ := HO.out w5 HBW.out
          clear xa xb hB5
          go_wp2_with fail
          with_reducible refine (isName_calls x.1 _ HX63.out).mono ?_
          rintro e w6 ⟨bb, rfl, hiff, hb6⟩
          obtain rfl : bb = false := by cases bb <;> simp_all [HNM.out]
          have HB6 := Aside0.mk hb6
          clear hiff hb6
          go_wp2_with fail
          go_roundg (n - (i + 1))
          case measure => omega
          case rel =>
            have ht := HT.out
            rw [if_neg HNM.out] at ht
            have hb7 := below_then HBR.out HBR.out.size HB6.out
            refine ⟨i + 1, by go_num, by omega, by omega, rfl, ⟨⟨?_, ?_, below_then HC.out.below HC.out.below.size hb7, HC.out.ge⟩⟩⟩
            · rw [ht]; exact HC.out.vars.below hb7
            · rw [ht]; exact own_keep HC.out.row (fun q hq hlt => hb7.block q hlt)
    · have hlay : layV (l.take i) = layV (l.take 40) := by
        rcases Nat.lt_or_ge i 40 with h | h
        · have hn' : i = n := by omega
          rw [List.take_of_length_le (by have := HN.out; omega : l.length ≤ i), List.take_of_length_le (by have := HN.out; omega : l.length ≤ 40)]
        · rw [show i = 40 by omega]
      have HLY := Aside0.mk hlay
      clear hlay
      by_cases h40 : i < n
      · obtain rfl : i = 40 := by omega
        go_wp2_with fail
        go_ret2
        exact ⟨g, bv, _, rfl, HC.out⟩
      · obtain rfl : i = n := by omega
        clear hin
        go_wp2_with fail
        go_ret2
        exact ⟨g, bv, _, rfl, by rw [← HLY.out]; exact HC.out⟩
end Go.Proofs.YtjllmamblkejjaaGreatDoor
end

/- VarsKeep answers true. Conditions: names and values of at most 2^47 bytes. -/
section
set_option linter.unusedVariables false
set_option linter.unusedSimpArgs false
namespace Go.Proofs.YtjllmamblkejjaaGreatDoor
open Go.RowKit Go.Proofs.YtjllmamblkejjaaGreatDoorW.PrintWords Go.Proofs.YtjllmamblkejjaaGreatDoorW.PrintLast Go.Proofs.YtjllmamblkejjaaGreatDoorW.PrintMore
open PQA Sp Go.WideShapes

/-- List and SameVars in a row: what the variables are is told. -/
theorem list_row (g bv : Nat) (m : Vs) (w : World) (h : VarsIn w g bv m) :
    Calls Tryz.prog 14 #[.pointer (some ⟨g, 0, none⟩)] w fun e w' => ∃ A c, e = .returned (.slice A m.length c) ∧ RowV w' A m ∧ Below w.heap.size w w' :=
  (list_calls g bv m w h).mono fun e w' ⟨v, he, ho, _, hb⟩ => by
    obtain ⟨A, c, rfl, hr⟩ := rowV_own ho
    exact ⟨A, c, he, hr, hb⟩
/-- The row that laid made, behind a call that may turn the variables' map alone. -/
theorem rowV_keep {w1 wT wa : World} {base g bv : Nat} {A : Option Addr} {c : Nat} {m : Vs} (hrow : w1.ownsRow base 89 2 (.slice A m.length c) m.length (vflat m)) (hv : VarsIn w1 g bv m)
    (hb : Below w1.heap.size w1 wT) (hg : wT.grownBy wa (some bv)) : RowV wa A m := by
  have hne := own_neo hrow (VMap.obj hv.map).choose_spec.choose_spec (by intro cs; simp)
  obtain ⟨A', c', e1, hr'⟩ := rowV_own (own_keep (w' := wa) hrow (fun q hq hlt => (hg.block q (Nat.lt_of_lt_of_le hlt hb.size) (fun e => hne (by rw [hq]; exact e.symm))).trans (hb.block q hlt)))
  obtain ⟨rfl, _⟩ : A' = A ∧ c' = c := by simpa [eq_comm] using e1
  exact hr'
theorem below_of_laid {w w1 wT : World} (h : Below w.heap.size w w1) (hb : Below w1.heap.size w1 wT) : Below w.heap.size w wT := below_then h h.size hb
set_option maxHeartbeats 4000000 in
set_option maxRecDepth 100000 in
theorem varsKeep_calls (E : Nat → Addr) (A : Option Addr) (c : Nat) (l : Vs) (x v : Bs) (w : World) (hE : Env E w) (h : RowL w A l) (hs : ∀ p ∈ l, small p.1 ∧ small p.2) (hx : small x) (hv : small v) :
    Calls Tryz.prog 6 #[.slice A l.length c, .string (mk x), .string (mk v)] w fun e w' => e = .returned (.bool true) ∧ Below w.heap.size w w' := by
  have HL := Aside0.mk (laid_calls A c l w h hs)
  have HE := Aside0.mk hE
  have HX := Aside0.mk hx
  have HV := Aside0.mk hv
  clear h hs hE hx hv
  go_enter Tryz.func6, Tryz.ntmps6
  go_wp2_with fail
  with_reducible refine HL.out.mono ?_
  rintro e w1 ⟨g, bv, vm, rfl, hl⟩
  obtain ⟨Am, cm, rfl, hrm⟩ := rowV_own hl.row
  have HK := Aside0.mk hl
  have HRM := Aside0.mk hrm
  clear hl hrm HL
  go_wp2_with fail
  with_reducible refine (list_row g bv _ _ HK.out.vars).mono ?_
  rintro e w2 ⟨A2, c2, rfl, hr2, hb2⟩
  have HR2 := Aside0.mk hr2
  have HB2 := Aside0.mk hb2
  clear hr2 hb2
  go_wp2_with fail
  have hml : (layV (l.take 40)).length ≤ 1000000000 := by have := HK.out.vars.len; omega
  with_reducible refine (same_calls A2 Am c2 cm _ _ _ HR2.out (HRM.out.below HB2.out) hml).mono ?_
  rintro e w3 ⟨rfl, hd3⟩
  have hdt : decide (layV (l.take 40) = layV (l.take 40)) = true := decide_eq_true rfl
  have HB3 := Aside0.mk (below_then HB2.out HB2.out.size hd3.below)
  clear hd3
  go_wp2_with fail
  with_reducible refine (copy_calls g bv _ _ (HK.out.vars.below HB3.out)).mono ?_
  rintro e w4 ⟨g', bv', rfl, hv4, hg4, hbv4, hb4⟩
  have HV4 := Aside0.mk hv4
  have HG4 := Aside0.mk (And.intro hg4 hbv4)
  have HB4 := Aside0.mk (below_then HB3.out HB3.out.size hb4)
  clear hv4 hg4 hbv4 hb4
  go_wp2_with fail
  have hlen9 : (layV (l.take 40)).length ≤ 999999 := by
    have h1 := lay_len (l.take 40) []
    have h2 : (l.take 40).length ≤ 40 := by rw [List.length_take]; omega
    unfold layV
    simp at h1 h2 ⊢
    omega
  have HX63 : Aside0 (x.length ≤ 140737488355328) := ⟨HX.out⟩
  by_cases hnm : isName x
  · have HNM := Aside0.mk hnm
    with_reducible refine (set_ok g' bv' _ x v _ HV4.out HX.out HV.out hnm hlen9).mono ?_
    rintro e w5 ⟨rfl, hv5, hg5⟩
    have HV5 := Aside0.mk hv5
    have HB5 := Aside0.mk (HB4.out.grown hg5 HB4.out.size (fun k hk => by cases hk; have := HG4.out.2; have := HB3.out.size; omega))
    clear hnm hv5 hg5
    go_wp2_with fail
    with_reducible refine (isName_calls x _ HX63.out).mono ?_
    rintro e w6 ⟨bb, rfl, hiff, hb6⟩
    obtain rfl : bb = true := hiff.2 HNM.out
    have HV6 := Aside0.mk (HV5.out.below hb6)
    have HB6 := Aside0.mk (below_then HB5.out HB5.out.size hb6)
    clear hiff hb6
    go_wp2_with fail
    with_reducible refine (list_row g bv _ _ (HK.out.vars.below HB6.out)).mono ?_
    rintro e w7 ⟨A7, c7, rfl, hr7, hb7⟩
    have HR7 := Aside0.mk hr7
    have HV7 := Aside0.mk (HV6.out.below hb7)
    have HB7 := Aside0.mk (below_then HB6.out HB6.out.size hb7)
    clear hr7 hb7
    go_wp2_with fail
    with_reducible refine (same_calls A7 Am c7 cm _ _ _ HR7.out (HRM.out.below HB7.out) hml).mono ?_
    rintro e w8 ⟨rfl, hd8⟩
    have HV8 := Aside0.mk (HV7.out.below hd8.below)
    have HB8 := Aside0.mk (below_then HB7.out HB7.out.size hd8.below)
    clear hd8
    go_wp2_with fail
    with_reducible refine (isName_calls x _ HX63.out).mono ?_
    rintro e w9 ⟨bb, rfl, hiff, hb9⟩
    obtain rfl : bb = true := hiff.2 HNM.out
    have HV9 := Aside0.mk (HV8.out.below hb9)
    have HB9 := Aside0.mk (below_then HB8.out HB8.out.size hb9)
    clear hiff hb9
    go_wp2_with fail
    with_reducible refine (list_row g' bv' _ _ HV9.out).mono ?_
    rintro e w10 ⟨A10, c10, rfl, hr10, hb10⟩
    have HR10 := Aside0.mk hr10
    have HV10 := Aside0.mk (HV9.out.below hb10)
    have HB10 := Aside0.mk (below_then HB9.out HB9.out.size hb10)
    clear hr10 hb10
    go_wp2_with fail
    with_reducible refine (refSet_calls Am cm _ x v _ (HRM.out.below HB10.out) HK.out.vars.len).mono ?_
    rintro e w11 ⟨vv, rfl, ho11, hb11⟩
    rw [rset_eq HK.out.vars.rising] at ho11
    obtain ⟨A11, c11, rfl, hr11⟩ := rowV_own ho11
    have HR11 := Aside0.mk hr11
    have HR10b := Aside0.mk (HR10.out.below hb11)
    have HV11 := Aside0.mk (HV10.out.below hb11)
    have HB11 := Aside0.mk (below_then HB10.out HB10.out.size hb11)
    clear ho11 hr11 hb11
    go_wp2_with fail
    have hml11 : (mset x v (layV (l.take 40))).length ≤ 1000000000 := by have := HV11.out.len; omega
    have hdt11 : decide (mset x v (layV (l.take 40)) = mset x v (layV (l.take 40))) = true := decide_eq_true rfl
    with_reducible refine (same_calls A10 A11 c10 c11 _ _ _ HR10b.out HR11.out hml11).mono ?_
    rintro e w12 ⟨rfl, hd12⟩
    have HV12 := Aside0.mk (HV11.out.below hd12.below)
    have HB12 := Aside0.mk (below_then HB11.out HB11.out.size hd12.below)
    clear hd12
    go_wp2_with fail
    with_reducible refine (get_calls _ _ x HX.out _ (VarsIn.at_ HV12.out)).mono ?_
    rintro e wT ⟨rfl, rfl⟩
    have hg1 : mget x (mset x v (layV (l.take 40))) = some v := mget_set_same HK.out.vars.rising
    rw [hg1]
    have hss : (mk v).toList = (mk v).toList := rfl
    have hor : (Option.some v).getD [] = v := rfl
    have hor2 : (Option.some v).isSome = true := rfl
    rw [hor, hor2]
    have HBT := HB12
    go_wp2_with fail
    -- v.Unset(name), v.Get(name), the list
    with_reducible refine (unset_calls g bv _ x _ (HK.out.vars.below HBT.out) HX.out).mono ?_
    rintro e wa ⟨rfl, hva, hga⟩
    have hrma := rowV_keep HK.out.row HK.out.vars (HBT.out) hga
    have HVA := Aside0.mk hva
    have HBA := Aside0.mk (((below_of_laid HK.out.below HBT.out)).grown hga (below_of_laid HK.out.below HBT.out).size (fun k hk => by cases hk; exact HK.out.ge.2))
    have HRA := Aside0.mk hrma
    clear hva hga hrma
    go_wp2_with fail
    with_reducible refine (get_calls _ _ x HX.out _ (VarsIn.at_ HVA.out)).mono ?_
    rintro e wb ⟨rfl, rfl⟩
    have hgd : (mget x (mdel x (layV (l.take 40)))).isSome = false := by rw [mget_del_same]; rfl
    go_wp2_with fail
    with_reducible refine (list_row g bv _ _ HVA.out).mono ?_
    rintro e wc ⟨Ac, cc, rfl, hrc, hbc⟩
    have HRC := Aside0.mk hrc
    have HBC := Aside0.mk (below_then HBA.out HBA.out.size hbc)
    have HRMC := Aside0.mk (HRA.out.below hbc)
    clear hrc hbc
    go_wp2_with fail
    have hml6 : (layV (l.take 40)).length ≤ 1000000 := HK.out.vars.len
    with_reducible refine (refUnset_calls Am cm _ x _ HRMC.out hml6).mono ?_
    rintro e wd ⟨vd, rfl, hod, hbd⟩
    obtain ⟨Ad, cd, rfl, hrd⟩ := rowV_own hod
    have HRD := Aside0.mk hrd
    have HRCD := Aside0.mk (HRC.out.below hbd)
    have HBD := Aside0.mk (below_then HBC.out HBC.out.size hbd)
    clear hod hrd hbd
    go_wp2_with fail
    have hmld : (mdel x (layV (l.take 40))).length ≤ 1000000000 := by have := HVA.out.len; omega
    have hdt2 : decide (mdel x (layV (l.take 40)) = mdel x (layV (l.take 40))) = true := decide_eq_true rfl
    with_reducible refine (same_calls Ac Ad cc cd _ _ _ HRCD.out HRD.out hmld).mono ?_
    rintro e we ⟨rfl, hde⟩
    have HBE := Aside0.mk (below_then HBD.out HBD.out.size hde.below)
    clear hde
    go_wp2_with fail
    with_reducible refine (awake_calls E _ (HE.out.below HBE.out)).mono ?_
    rintro e wf ⟨rfl, hbf⟩
    have HBF := Aside0.mk (below_then HBE.out HBE.out.size hbf)
    clear hbf
    go_wp2_with fail
    go_ret
    exact ⟨rfl, HBF.out⟩
  · have HNM := Aside0.mk hnm
    with_reducible refine (set_not g' bv' _ x v _ HV4.out HX.out hnm).mono ?_
    rintro e w5 ⟨rfl, hb5⟩
    have HB5 := Aside0.mk (below_then HB4.out HB4.out.size hb5)
    clear hnm hb5
    go_wp2_with fail
    with_reducible refine (isName_calls x _ HX63.out).mono ?_
    rintro e w6 ⟨bb, rfl, hiff, hb6⟩
    obtain rfl : bb = false := by cases bb <;> simp_all [HNM.out]
    have HB6 := Aside0.mk (below_then HB5.out HB5.out.size hb6)
    clear hiff hb6
    go_wp2_with fail
    with_reducible refine (list_row g bv _ _ (HK.out.vars.below HB6.out)).mono ?_
    rintro e w7 ⟨A7, c7, rfl, hr7, hb7⟩
    have HR7 := Aside0.mk hr7
    have HB7 := Aside0.mk (below_then HB6.out HB6.out.size hb7)
    clear hr7 hb7
    go_wp2_with fail
    with_reducible refine (same_calls A7 Am c7 cm _ _ _ HR7.out (HRM.out.below HB7.out) hml).mono ?_
    rintro e w8 ⟨rfl, hd8⟩
    have HB8 := Aside0.mk (below_then HB7.out HB7.out.size hd8.below)
    clear hd8
    go_wp2_with fail
    with_reducible refine (isName_calls x _ HX63.out).mono ?_
    rintro e wT ⟨bb, rfl, hiff, hb9⟩
    obtain rfl : bb = false := by cases bb <;> simp_all [HNM.out]
    have HBT := Aside0.mk (below_then HB8.out HB8.out.size hb9)
    clear hiff hb9
    go_wp2_with fail
    -- v.Unset(name), v.Get(name), the list
    with_reducible refine (unset_calls g bv _ x _ (HK.out.vars.below HBT.out) HX.out).mono ?_
    rintro e wa ⟨rfl, hva, hga⟩
    have hrma := rowV_keep HK.out.row HK.out.vars (HBT.out) hga
    have HVA := Aside0.mk hva
    have HBA := Aside0.mk (((below_of_laid HK.out.below HBT.out)).grown hga (below_of_laid HK.out.below HBT.out).size (fun k hk => by cases hk; exact HK.out.ge.2))
    have HRA := Aside0.mk hrma
    clear hva hga hrma
    go_wp2_with fail
    with_reducible refine (get_calls _ _ x HX.out _ (VarsIn.at_ HVA.out)).mono ?_
    rintro e wb ⟨rfl, rfl⟩
    have hgd : (mget x (mdel x (layV (l.take 40)))).isSome = false := by rw [mget_del_same]; rfl
    go_wp2_with fail
    with_reducible refine (list_row g bv _ _ HVA.out).mono ?_
    rintro e wc ⟨Ac, cc, rfl, hrc, hbc⟩
    have HRC := Aside0.mk hrc
    have HBC := Aside0.mk (below_then HBA.out HBA.out.size hbc)
    have HRMC := Aside0.mk (HRA.out.below hbc)
    clear hrc hbc
    go_wp2_with fail
    have hml6 : (layV (l.take 40)).length ≤ 1000000 := HK.out.vars.len
    with_reducible refine (refUnset_calls Am cm _ x _ HRMC.out hml6).mono ?_
    rintro e wd ⟨vd, rfl, hod, hbd⟩
    obtain ⟨Ad, cd, rfl, hrd⟩ := rowV_own hod
    have HRD := Aside0.mk hrd
    have HRCD := Aside0.mk (HRC.out.below hbd)
    have HBD := Aside0.mk (below_then HBC.out HBC.out.size hbd)
    clear hod hrd hbd
    go_wp2_with fail
    have hmld : (mdel x (layV (l.take 40))).length ≤ 1000000000 := by have := HVA.out.len; omega
    have hdt2 : decide (mdel x (layV (l.take 40)) = mdel x (layV (l.take 40))) = true := decide_eq_true rfl
    with_reducible refine (same_calls Ac Ad cc cd _ _ _ HRCD.out HRD.out hmld).mono ?_
    rintro e we ⟨rfl, hde⟩
    have HBE := Aside0.mk (below_then HBD.out HBD.out.size hde.below)
    clear hde
    go_wp2_with fail
    with_reducible refine (awake_calls E _ (HE.out.below HBE.out)).mono ?_
    rintro e wf ⟨rfl, hbf⟩
    have HBF := Aside0.mk (below_then HBE.out HBE.out.size hbf)
    clear hbf
    go_wp2_with fail
    go_ret
    exact ⟨rfl, HBF.out⟩
end Go.Proofs.YtjllmamblkejjaaGreatDoor
end

/- Rows of variables that come in. Conditions: what a process's memory may take (the form's own). -/
section
set_option linter.unusedVariables false
set_option linter.unusedSimpArgs false
namespace Go.Proofs.YtjllmamblkejjaaGreatDoor
open Go.ChangeShapes Go.WideShapes Go.ChangeAt Go.RowKit Sp Go.Proofs.YtjllmamblkejjaaGreatDoorW.PrintWords

theorem bytes_mk (s : ByteArray) : mk s.data.toList = s := (mk_of s).symm
theorem weights_each {H : Type} (P : Program) (e : TypeId) {d : DataW H} : ∀ (l : List (DataW H)), d ∈ l → ∀ n ∈ d.weights P e, n ∈ DataW.weightsAll P e l
  | x :: l, hd, n, hn => by
    rw [DataW.weightsAll, List.mem_append]
    rcases List.mem_cons.1 hd with rfl | hd
    · exact .inl hn
    · exact .inr (weights_each P e l hd n hn)
set_option maxRecDepth 100000 in
/-- Variables that came in. -/
theorem open_vars {H : Type} {enc : TypeId × Value → H} {W : World} {hd : Bool} {v : Value} {d : DataW H} {p : List MemPlace} {base : Nat} (hval : Value.okWide Tryz.prog W .any base 35 v)
    (h : DataW.Trod enc Tryz.prog W 0 (fun _ => true) hd 35 v d p) (hw : ∀ n ∈ d.weights Tryz.prog 35, n ≤ reachBytes) :
    ∃ (A : Option Addr) (l : Vs) (c : Nat), v = .slice A l.length c ∧ RowL W A l ∧ ∀ x ∈ l, small x.1 ∧ small x.2 := by
  obtain ⟨a, len, cap, rfl⟩ := okWide_slice Tryz.underlying35 hval
  obtain ⟨fuel, hf⟩ := h
  rcases Go.Deep.open_slice_pairs Tryz.underlying35 Tryz.underlying89 (by kernel_rfl) rfl rfl Tryz.cellsStr Tryz.cellsStr hf with ⟨hcs, _⟩ | ⟨ad, l, cp, m, n, V0, V1, D0, D1, P0, P1, hcs, _, hl, hm, hmm, hx, hall⟩
  · simp only [Value.cells, List.cons.injEq, Value.slice.injEq, and_true] at hcs
    obtain ⟨rfl, rfl, rfl⟩ := hcs
    exact ⟨none, [], 0, rfl, fun i x hx => by simp at hx, fun x hx => by simp at hx⟩
  · simp only [Value.cells, List.cons.injEq, Value.slice.injEq, and_true] at hcs
    obtain ⟨rfl, rfl, rfl⟩ := hcs
    have hlm : len ≤ m := by rw [hmm]; split <;> omega
    have each : ∀ i, i < len → ∃ x : Bs × Bs, V0 i = .string (mk x.1) ∧ V1 i = .string (mk x.2) ∧ small x.1 ∧ small x.2 := by
      intro i hi
      obtain ⟨_, _, t0, t1⟩ := hall i (by omega)
      obtain ⟨s, hs, hd0, _⟩ := DataW.trod_string Tryz.underlying9 t0
      obtain ⟨t, ht, hd1, _⟩ := DataW.trod_string Tryz.underlying9 t1
      have hs0 : V0 i = .string s := by simpa using hs
      have ht0 : V1 i = .string t := by simpa using ht
      have e0 : D0 i = .lit (.string s.data.toList) := congrArg Prod.fst hd0
      have e1 : D1 i = .lit (.string t.data.toList) := congrArg Prod.fst hd1
      have hmem : (DataW.agg [D0 i, D1 i] : DataW H) ∈ (List.range len).map fun i => (DataW.agg [D0 i, D1 i] : DataW H) := List.mem_map.2 ⟨i, List.mem_range.2 hi, rfl⟩
      have hin : ∀ k ∈ (DataW.agg [D0 i, D1 i] : DataW H).weights Tryz.prog 89, k ≤ reachBytes := by
        intro k hk
        refine hw k ?_
        have hdx : d = (DataW.slice ((List.range len).map fun i => .agg [D0 i, D1 i]) ((List.range (m - len)).map fun j => .agg [D0 (len + j), D1 (len + j)])) := congrArg Prod.fst hx
        rw [hdx, DataW.weights, Tryz.underlying35]
        simp only [List.mem_cons, List.mem_append]
        exact .inr (.inl (weights_each _ _ _ hmem k hk))
      rw [DataW.weights, Tryz.underlying89] at hin
      simp only [DataW.weightsEach, List.map_cons, List.map_nil, e0, e1, DataW.weights, List.cons_append, List.nil_append, List.append_nil, List.mem_cons, List.not_mem_nil, or_false] at hin
      refine ⟨(s.data.toList, t.data.toList), by rw [hs0, bytes_mk], by rw [ht0, bytes_mk], ?_, ?_⟩
      · have := hin s.data.toList.length (.inl rfl)
        unfold reachBytes at this
        unfold small
        simp only
        omega
      · have := hin t.data.toList.length (.inr rfl)
        unfold reachBytes at this
        unfold small
        simp only
        omega
    obtain ⟨q, hq⟩ := Go.Deep.choose_lt each
    refine ⟨some ad, (List.range len).map q, cap, by simp, fun i x hx => ?_, fun x hx => ?_⟩
    · obtain ⟨hi, he⟩ := List.getElem?_eq_some_iff.1 hx
      simp only [List.length_map, List.length_range] at hi
      simp only [List.getElem_map, List.getElem_range] at he
      subst he
      obtain ⟨c0, c1, _, _⟩ := hall i (by omega)
      obtain ⟨h0, h1, _, _⟩ := hq i hi
      rw [h0] at c0
      rw [h1] at c1
      refine ⟨ad, rfl, ?_, c0, ?_⟩
      · have := c0
        unfold World.cell? at this
        rw [block_add] at this
        cases hb : W.heap[ad.block]? with
        | none => rw [hb] at this; cases this
        | some o => exact (Array.getElem?_eq_some_iff.1 hb).1
      · have e : (⟨(ad.add (i * 2)).block, (ad.add (i * 2)).off + 1, none⟩ : Addr) = ad.add (i * 2 + 1) := by
          rcases Nat.eq_zero_or_pos i with h2 | h2
          · subst h2
            simp [Addr.add]
          · have h3 : ¬ i * 2 = 0 := by omega
            simp [Addr.add, h3]
            try omega
        rw [e]; exact c1
    · obtain ⟨i, hi, rfl⟩ := List.mem_map.1 hx
      obtain ⟨_, _, h2, h3⟩ := hq i (List.mem_range.1 hi)
      exact ⟨h2, h3⟩
end Go.Proofs.YtjllmamblkejjaaGreatDoor
end
