/- A part of the proof: texts of ours, joined by a program, each in a section of its own; what each proves, and under what conditions, stands ahead of it. -/
import Derived.Test.YtjllmamblkejjaaGreatDoorSP
import Derived.Laws.BytesString
import Derived.Laws.IdiomStrings

/- Plain law: tokens of a text that is put together of known parts. No program in sight. No conditions. -/
section
set_option linter.unusedVariables false
set_option linter.unusedSimpArgs false
namespace Go.Proofs.YtjllmamblkejjaaGreatDoor
open Sp

theorem tokAt_sh (r : Bs) (a k : Nat) : tokAt r (a + k) = shT k (tokAt r a) := by
  unfold tokAt
  split
  · simp [shT]
  · split
    · simp [shT]; omega
    · split
      · simp [shT]; omega
      · split
        · simp [shT]; omega
        · simp [shT]
/-- A token behind a part of the text. -/
theorem next_app (A R : Bs) (k : Nat) : next (A ++ R) (A.length + k) = shT A.length (next R k) := by
  have h : (A ++ R).drop (A.length + k) = R.drop k := by rw [List.drop_append]; simp
  unfold next
  rw [h]
  have h2 : (A ++ R).drop (A.length + k + skip (R.drop k)) = R.drop (k + skip (R.drop k)) := by rw [List.drop_append]; simp [Nat.add_assoc]
  rw [h2, show A.length + k + skip (R.drop k) = k + skip (R.drop k) + A.length by omega, tokAt_sh]
theorem tk {T A R : Bs} {k : Nat} {u : Tok} (hT : T = A ++ R) (h : next R k = u) {n : Nat} (hn : n = A.length + k) : next T n = shT A.length u := by
  subst hT hn h; exact next_app A R k
/-- A number that ends where it should. -/
theorem g_num {T A R : Bs} {k n m : Nat} (hT : T = A ++ R) (h : next R k = ⟨wNum, k, m, n, false, []⟩) (he : R.drop m = [] ∨ ∃ c cs, R.drop m = c :: cs ∧ name (c :: cs) = 0 ∧ isDig c = false)
    {a : Nat} (ha : a = A.length + k) {z : Nat} (hz : z = A.length + m) : Gets (operand T · (next T a)) (.num n a) (next T z) := by
  have ht := tk hT h ha
  have hd : T.drop (m + A.length) = R.drop m := by rw [hT, List.drop_append]; simp
  rw [ht]
  have hc : constant T (shT A.length ⟨wNum, k, m, n, false, []⟩) = .ok (.num n a) (next T z) := by
    unfold constant
    have ho : (shT A.length ⟨wNum, k, m, n, false, []⟩).over = false := rfl
    have hf : (shT A.length ⟨wNum, k, m, n, false, []⟩).fin = m + A.length := rfl
    have hp : (shT A.length ⟨wNum, k, m, n, false, []⟩).pos = k + A.length := rfl
    have hnn : (shT A.length ⟨wNum, k, m, n, false, []⟩).num = n := rfl
    rw [ho, hf, hp, hnn, hd, if_neg (by simp)]
    rw [show a = k + A.length by omega, show z = m + A.length by omega]
    rcases he with he | ⟨c, cs, he, h1, h2⟩
    · rw [he]
    · rw [he]
      show (if 0 < name (c :: cs) ∨ isDig c = true then _ else _) = _
      rw [if_neg (by rw [h1, h2]; simp)]
  exact g_operand_num rfl hc
theorem nameGo_stop (c : UInt8) (cs : Bs) (h1 : letter c = false) (h2 : isDig c = false) : ∀ (x : Bs) (i : Nat), nameGo x i = i + x.length → nameGo (x ++ c :: cs) i = i + x.length
  | [], i, _ => by
    show (if (!letter c && (i == 0 || !isDig c)) = true then i else _) = _
    rw [h1, h2]; simp
  | y :: x, i, h => by
    rw [nameGo] at h
    rw [List.cons_append, nameGo]
    split at h
    · simp at h
    · rename_i hy
      rw [if_neg hy]
      have := nameGo_stop c cs h1 h2 x (i + 1) (by simp at h; omega)
      rw [this]; simp; omega
theorem name_head {x : Bs} (h : isName x) : ∃ y r, x = y :: r ∧ letter y = true := by
  obtain ⟨h0, h1⟩ := h
  match x, h0 with
  | y :: r, _ =>
    refine ⟨y, r, rfl, ?_⟩
    unfold name at h1
    rw [nameGo] at h1
    cases hl : letter y
    · rw [hl] at h1; simp at h1
    · rfl
theorem letter_ns (y : UInt8) (h : letter y = true) : (y ≠ 32 ∧ y ≠ 9 ∧ y ≠ 10) ∧ (y < 48 ∨ 57 < y) := by
  simp only [letter, Bool.or_eq_true, Bool.and_eq_true, decide_eq_true_eq, beq_iff_eq] at h
  simp only [UInt8.le_iff_toNat_le, UInt8.lt_iff_toNat_lt, ← UInt8.toNat_inj, ne_eq] at h ⊢
  simp only [UInt8.reduceToNat] at h ⊢
  omega
/-- A name, with what is no part of it behind. -/
theorem next_name {x : Bs} (h : isName x) (c : UInt8) (cs : Bs) (h1 : letter c = false) (h2 : isDig c = false) : next (x ++ c :: cs) 0 = ⟨wName, 0, x.length, 0, false, x⟩ := by
  obtain ⟨y, r, hy, hl⟩ := name_head h
  have hnm : name (x ++ c :: cs) = x.length := by
    have := nameGo_stop c cs h1 h2 x 0 (by rw [Nat.zero_add]; exact h.2)
    rw [Nat.zero_add] at this; exact this
  obtain ⟨⟨s1, s2, s3⟩, hd⟩ := letter_ns y hl
  have hsk : skip (x ++ c :: cs) = 0 := by rw [hy]; show (if y = 32 ∨ y = 9 ∨ y = 10 then _ else 0) = 0; rw [if_neg (by simp [s1, s2, s3])]
  have hct : (const (x ++ c :: cs)).2.1 = 0 := by rw [hy]; show (if y < 48 ∨ 57 < y then (0, 0, false) else _).2.1 = 0; rw [if_pos hd]
  have hx0 : 0 < x.length := by rw [hy]; simp
  unfold next
  rw [List.drop_zero, hsk, Nat.add_zero, List.drop_zero]
  unfold tokAt
  rw [if_neg (by simp), if_neg (by omega), if_pos (by omega), hnm]
  simp
end Go.Proofs.YtjllmamblkejjaaGreatDoor
end

/- Plain law: && || and ? look at no more than they need, at ArithHalf's texts. No program in sight. Conditions: x is a name, b reads as an expression. -/
section
set_option linter.unusedVariables false
set_option linter.unusedSimpArgs false
namespace Go.Proofs.YtjllmamblkejjaaGreatDoor
open Sp

/-- ArithHalf's p. -/
def halfP (x b : Bs) : Bs := [40, 49, 47, 48, 43, 40] ++ x ++ [61, 53, 41, 43] ++ ([40] ++ b ++ [41]) ++ [41]
theorem half_par (pre post x b : Bs) (hx : isName x) {f : Nat} {e : Ex} {t : Tok} (h : parse b f = .ok e t) :
    ∃ X, Gets (operand (pre ++ (halfP x b ++ post)) · (next (pre ++ (halfP x b ++ post)) pre.length)) X (next (pre ++ (halfP x b ++ post)) (pre.length + (halfP x b).length)) := by
  have hl : (halfP x b).length = x.length + b.length + 13 := by simp [halfP]; omega
  rw [hl]
  generalize hT : pre ++ (halfP x b ++ post) = T
  have e0 : T = pre ++ ([40, 49, 47, 48, 43, 40] ++ (x ++ ([61, 53, 41, 43, 40] ++ (b ++ 41 :: (41 :: post))))) := by rw [← hT]; simp [halfP]
  have e1 : T = (pre ++ [40, 49, 47, 48, 43, 40]) ++ (x ++ 61 :: ([53, 41, 43, 40] ++ (b ++ 41 :: (41 :: post)))) := by rw [e0]; simp
  have e2 : T = (pre ++ [40, 49, 47, 48, 43, 40] ++ x) ++ ([61, 53, 41, 43, 40] ++ (b ++ 41 :: (41 :: post))) := by rw [e0]; simp
  have e3 : T = (pre ++ [40, 49, 47, 48, 43, 40] ++ x ++ [61, 53, 41, 43, 40]) ++ b ++ 41 :: (41 :: post) := by rw [e0]; simp
  have e4 : T = (pre ++ [40, 49, 47, 48, 43, 40] ++ x ++ [61, 53, 41, 43, 40] ++ b ++ [41]) ++ (41 :: post) := by rw [e0]; simp
  clear hT
  have t0 := tk e0 (show next _ 0 = ⟨[40], 0, 1, 0, false, []⟩ by rfl) (n := pre.length) rfl
  have ot0 : (next T (pre.length)).op = [40] := by rw [t0]; rfl
  have g1 := g_num e0 (show next _ 1 = ⟨wNum, 1, 2, 1, false, []⟩ by rfl) (.inr ⟨47, _, rfl, rfl, rfl⟩) (a := pre.length + 1) rfl (z := pre.length + 2) rfl
  have t1 := tk e0 (show next _ 1 = ⟨wNum, 1, 2, 1, false, []⟩ by rfl) (n := pre.length + 1) rfl
  have ot1 : (next T (pre.length + 1)).op = wNum := by rw [t1]; rfl
  have t2 := tk e0 (show next _ 2 = ⟨[47], 2, 3, 0, false, []⟩ by rfl) (n := pre.length + 2) rfl
  have ot2 : (next T (pre.length + 2)).op = [47] := by rw [t2]; rfl
  have g3 := g_num e0 (show next _ 3 = ⟨wNum, 3, 4, 0, false, []⟩ by rfl) (.inr ⟨43, _, rfl, rfl, rfl⟩) (a := pre.length + 3) rfl (z := pre.length + 4) rfl
  have t4 := tk e0 (show next _ 4 = ⟨[43], 4, 5, 0, false, []⟩ by rfl) (n := pre.length + 4) rfl
  have ot4 : (next T (pre.length + 4)).op = [43] := by rw [t4]; rfl
  have t5 := tk e0 (show next _ 5 = ⟨[40], 5, 6, 0, false, []⟩ by rfl) (n := pre.length + 5) rfl
  have ot5 : (next T (pre.length + 5)).op = [40] := by rw [t5]; rfl
  have t6 := tk e1 (next_name hx 61 _ rfl rfl) (n := pre.length + 6) (by simp)
  have ot6 : (next T (pre.length + 6)).op = wName := by rw [t6]; rfl
  have t7 := tk e2 (show next _ 0 = ⟨[61], 0, 1, 0, false, []⟩ by rfl) (n := pre.length + 6 + x.length) (by simp; omega)
  have ot7 : (next T (pre.length + 6 + x.length)).op = [61] := by rw [t7]; rfl
  have g8 := g_num e2 (show next _ 1 = ⟨wNum, 1, 2, 5, false, []⟩ by rfl) (.inr ⟨41, _, rfl, rfl, rfl⟩) (a := pre.length + 6 + x.length + 1) (by simp; omega) (z := pre.length + 6 + x.length + 2) (by simp; omega)
  have t9 := tk e2 (show next _ 2 = ⟨[41], 2, 3, 0, false, []⟩ by rfl) (n := pre.length + 6 + x.length + 2) (by simp; omega)
  have ot9 : (next T (pre.length + 6 + x.length + 2)).op = [41] := by rw [t9]; rfl
  have t8 := tk e2 (show next _ 1 = ⟨wNum, 1, 2, 5, false, []⟩ by rfl) (n := pre.length + 6 + x.length + 1) (by simp; omega)
  have ot8 : (next T (pre.length + 6 + x.length + 1)).op = wNum := by rw [t8]; rfl
  have t10 := tk e2 (show next _ 3 = ⟨[43], 3, 4, 0, false, []⟩ by rfl) (n := pre.length + 6 + x.length + 3) (by simp; omega)
  have ot10 : (next T (pre.length + 6 + x.length + 3)).op = [43] := by rw [t10]; rfl
  have t11 := tk e2 (show next _ 4 = ⟨[40], 4, 5, 0, false, []⟩ by rfl) (n := pre.length + 6 + x.length + 4) (by simp; omega)
  have ot11 : (next T (pre.length + 6 + x.length + 4)).op = [40] := by rw [t11]; rfl
  have t12 := tk e4 (show next _ 0 = ⟨[41], 0, 1, 0, false, []⟩ by rfl) (n := pre.length + 6 + x.length + 5 + b.length + 1) (by simp; omega)
  have ot12 : (next T (pre.length + 6 + x.length + 5 + b.length + 1)).op = [41] := by rw [t12]; rfl
  have gb := parens_get (pre ++ [40, 49, 47, 48, 43, 40] ++ x ++ [61, 53, 41, 43, 40]) b (41 :: post) h (t0 := next T (pre.length + 6 + x.length + 4)) (by rw [t11]; rfl) (by rw [t11]; simp [shT]; omega)
  rw [← e3] at gb
  have hq : (pre ++ [40, 49, 47, 48, 43, 40] ++ x ++ [61, 53, 41, 43, 40] : Bs).length + b.length + 1 = pre.length + 6 + x.length + 5 + b.length + 1 := by simp; omega
  rw [hq] at gb
  -- the places behind the tokens
  have f0 : (next T pre.length).fin = pre.length + 1 := by rw [t0]; simp [shT]; omega
  have f2 : (next T (pre.length + 2)).fin = pre.length + 3 := by rw [t2]; simp [shT]; omega
  have f4 : (next T (pre.length + 4)).fin = pre.length + 5 := by rw [t4]; simp [shT]; omega
  have f5 : (next T (pre.length + 5)).fin = pre.length + 6 := by rw [t5]; simp [shT]; omega
  have f6 : (next T (pre.length + 6)).fin = pre.length + 6 + x.length := by rw [t6]; simp [shT]; omega
  have f7 : (next T (pre.length + 6 + x.length)).fin = pre.length + 6 + x.length + 1 := by rw [t7]; simp [shT]; omega
  have f9 : (next T (pre.length + 6 + x.length + 2)).fin = pre.length + 6 + x.length + 3 := by rw [t9]; simp [shT]; omega
  have f10 : (next T (pre.length + 6 + x.length + 3)).fin = pre.length + 6 + x.length + 4 := by rw [t10]; simp [shT]; omega
  have f12 : (next T (pre.length + 6 + x.length + 5 + b.length + 1)).fin = pre.length + (x.length + b.length + 13) := by rw [t12]; simp [shT]; omega
  -- (x=5)
  have s5 : Gets (expr T · (next T (pre.length + 6 + x.length + 1))) (.num 5 (pre.length + 6 + x.length + 1)) (next T (pre.length + 6 + x.length + 2)) :=
    g_expr_cond (by rw [ot8]; intro h; exact absurd h.1 (by decide)) (g_cond (g_bin g8 (g_loop_end (by rw [ot9]; decide))) (by rw [ot9]; decide))
  have sa : Gets (expr T · (next T (pre.length + 6))) _ (next T (pre.length + 6 + x.length + 2)) :=
    g_expr_asg (by rw [t6]; rfl) (by rw [f6, ot7]; decide) (by rw [f6, f7]; exact s5)
  obtain ⟨E1, sp⟩ : ∃ e, Gets (operand T · (next T (pre.length + 5))) e (next T (pre.length + 6 + x.length + 3)) := by
    have := g_operand_par (b := T) (t := next T (pre.length + 5)) (by rw [t5]; rfl) (by rw [f5]; exact sa) (by rw [t9]; rfl)
    rw [f9] at this; exact ⟨_, this⟩
  obtain ⟨E2, gb⟩ : ∃ e, Gets (operand T · (next T (pre.length + 6 + x.length + 4))) e (next T (pre.length + 6 + x.length + 5 + b.length + 1)) := ⟨_, gb⟩
  -- 1/0+(x=5)+(b)
  obtain ⟨E3, l2⟩ : ∃ e, Gets (loop T · 0 (.bin (next T (pre.length + 4)).op (next T (pre.length + 4)).pos (.bin (next T (pre.length + 2)).op (next T (pre.length + 2)).pos (.num 1 (pre.length + 1)) (.num 0 (pre.length + 3))) E1) (next T (pre.length + 6 + x.length + 3))) e (next T (pre.length + 6 + x.length + 5 + b.length + 1)) :=
    ⟨_, g_loop_on (k := E2) (by rw [ot10]; decide) (by rw [f10]; exact g_bin gb (g_loop_end (by rw [ot12, ot10]; decide))) (g_loop_end (by rw [ot12]; decide))⟩
  have l1 : Gets (loop T · 0 (.bin (next T (pre.length + 2)).op (next T (pre.length + 2)).pos (.num 1 (pre.length + 1)) (.num 0 (pre.length + 3))) (next T (pre.length + 4))) E3 (next T (pre.length + 6 + x.length + 5 + b.length + 1)) :=
    g_loop_on (k := E1) (by rw [ot4]; decide) (by rw [f4]; exact g_bin sp (g_loop_end (by rw [ot10, ot4]; decide))) l2
  have l0 : Gets (loop T · 0 (.num 1 (pre.length + 1)) (next T (pre.length + 2))) E3 (next T (pre.length + 6 + x.length + 5 + b.length + 1)) :=
    g_loop_on (k := .num 0 (pre.length + 3)) (by rw [ot2]; decide) (by rw [f2]; exact g_bin g3 (g_loop_end (by rw [ot4, ot2]; decide))) l1
  have se : Gets (expr T · (next T (pre.length + 1))) E3 (next T (pre.length + 6 + x.length + 5 + b.length + 1)) :=
    g_expr_cond (by rw [ot1]; intro h; exact absurd h.1 (by decide)) (g_cond (g_bin g1 l0) (by rw [ot12]; decide))
  have := g_operand_par (b := T) (t := next T pre.length) (by rw [t0]; rfl) (by rw [f0]; exact se) (by rw [t12]; rfl)
  rw [f12] at this
  exact ⟨_, this⟩

/-- The texts with an operator ahead. -/
theorem half_two (o1 o2 d : UInt8) (n s : Nat) (x b : Bs) (hx : isName x) {f : Nat} {e : Ex} {t : Tok} (h : parse b f = .ok e t)
    (k0 : ∀ r : Bs, next (d :: 32 :: o1 :: o2 :: 32 :: r) 0 = ⟨wNum, 0, 1, n, false, []⟩) (k1 : ∀ r : Bs, next (d :: 32 :: o1 :: o2 :: 32 :: r) 1 = ⟨[o1, o2], 2, 4, 0, false, []⟩)
    (hs : strength [o1, o2] = s + 1) :
    ∃ X tt, tt.op = [] ∧ Gets (expr ([d, 32, o1, o2, 32] ++ halfP x b) · (next ([d, 32, o1, o2, 32] ++ halfP x b) 0)) (.bin [o1, o2] 2 (.num n 0) X) tt := by
  obtain ⟨X, hX⟩ := half_par [d, 32, o1, o2, 32] [] x b hx h
  rw [List.append_nil] at hX
  have hp : halfP x b = 40 :: (halfP x b).tail := by simp [halfP]
  have hend : (next ([d, 32, o1, o2, 32] ++ halfP x b) ([d, 32, o1, o2, 32].length + (halfP x b).length)).op = [] := by
    rw [next_app]
    have : next (halfP x b) (halfP x b).length = ⟨[], (halfP x b).length, (halfP x b).length, 0, false, []⟩ := by
      unfold next; rw [List.drop_length]; simp [skip, tokAt]
    rw [this]; rfl
  generalize hT : [d, 32, o1, o2, 32] ++ halfP x b = T at *
  have e0 : T = [] ++ (d :: 32 :: o1 :: o2 :: 32 :: (40 :: (halfP x b).tail)) := by rw [← hp, ← hT]; simp
  have u0 := tk e0 (k0 _) (n := 0) rfl
  have ou0 : (next T (0)).op = wNum := by rw [u0]; rfl
  have u1 := tk e0 (k1 _) (n := 1) rfl
  have ou1 : (next T (1)).op = [o1, o2] := by rw [u1]; rfl
  have gn := g_num e0 (k0 _) (.inr ⟨32, _, rfl, rfl, rfl⟩) (a := 0) rfl (z := 1) rfl
  have e5 : T = [d, 32, o1, o2, 32] ++ (halfP x b) := hT.symm
  have e6 : T = [d, 32, o1, o2] ++ (32 :: 40 :: (halfP x b).tail) := by rw [← hT, hp]; simp
  have v1 := tk e5 (show next (halfP x b) 0 = ⟨[40], 0, 1, 0, false, []⟩ by rw [hp]; rfl) (n := 5) rfl
  have ov1 : (next T (5)).op = [40] := by rw [v1]; rfl
  have v0 := tk e6 (show next _ 0 = ⟨[40], 1, 2, 0, false, []⟩ by rfl) (n := 4) rfl
  have ov0 : (next T (4)).op = [40] := by rw [v0]; rfl
  have hv : next T 4 = next T 5 := by rw [v0, v1]; rfl
  have f1 : (next T 1).fin = 4 := by rw [u1]; rfl
  refine ⟨X, _, hend, g_expr_cond (by rw [ou0]; intro h; exact absurd h.1 (by decide)) (g_cond (g_bin gn ?_) (by rw [hend]; decide))⟩
  have l1 := g_loop_end (b := T) (l := 0) (e := .bin (next T 1).op (next T 1).pos (.num n 0) X) (t := next T ([d, 32, o1, o2, 32].length + (halfP x b).length)) (by rw [hend]; decide)
  have l0 := g_loop_on (l := 0) (t := next T 1) (e := .num n 0) (by rw [ou1]; show ¬ strength [o1, o2] < 1; omega) (by rw [f1, hv]; exact g_bin hX (g_loop_end (by rw [hend]; show 0 < _; omega))) l1
  rw [u1] at l0 ⊢
  exact l0
theorem half_tern1 (x b : Bs) (hx : isName x) {f : Nat} {e : Ex} {t : Tok} (h : parse b f = .ok e t) :
    ∃ X tt, tt.op = [] ∧ Gets (expr ([49, 32, 63, 32, 55, 32, 58, 32] ++ halfP x b) · (next ([49, 32, 63, 32, 55, 32, 58, 32] ++ halfP x b) 0)) (.tern 2 (.num 1 0) (.num 7 4) X) tt := by
  obtain ⟨X, hX⟩ := half_par [49, 32, 63, 32, 55, 32, 58, 32] [] x b hx h
  rw [List.append_nil] at hX
  have hp : halfP x b = 40 :: (halfP x b).tail := by simp [halfP]
  have hend : (next ([49, 32, 63, 32, 55, 32, 58, 32] ++ halfP x b) (([49, 32, 63, 32, 55, 32, 58, 32] : Bs).length + (halfP x b).length)).op = [] := by
    rw [next_app]
    have : next (halfP x b) (halfP x b).length = ⟨[], (halfP x b).length, (halfP x b).length, 0, false, []⟩ := by
      unfold next; rw [List.drop_length]; simp [skip, tokAt]
    rw [this]; rfl
  generalize hT : [49, 32, 63, 32, 55, 32, 58, 32] ++ halfP x b = T at *
  have e0 : T = [] ++ (49 :: 32 :: 63 :: 32 :: 55 :: 32 :: 58 :: 32 :: (40 :: (halfP x b).tail)) := by rw [← hp, ← hT]; simp
  have u0 := tk e0 (show next _ 0 = ⟨wNum, 0, 1, 1, false, []⟩ by rfl) (n := 0) rfl
  have ou0 : (next T (0)).op = wNum := by rw [u0]; rfl
  have u1 := tk e0 (show next _ 1 = ⟨[63], 2, 3, 0, false, []⟩ by rfl) (n := 1) rfl
  have ou1 : (next T (1)).op = [63] := by rw [u1]; rfl
  have u3 := tk e0 (show next _ 3 = ⟨wNum, 4, 5, 7, false, []⟩ by rfl) (n := 3) rfl
  have ou3 : (next T (3)).op = wNum := by rw [u3]; rfl
  have u5 := tk e0 (show next _ 5 = ⟨[58], 6, 7, 0, false, []⟩ by rfl) (n := 5) rfl
  have ou5 : (next T (5)).op = [58] := by rw [u5]; rfl
  have g0 := g_num e0 (show next _ 0 = ⟨wNum, 0, 1, 1, false, []⟩ by rfl) (.inr ⟨32, _, rfl, rfl, rfl⟩) (a := 0) rfl (z := 1) rfl
  have g3 : Gets (operand T · (next T 3)) (.num 7 4) (next T 5) := by
    have e4 : T = [49, 32, 63, 32] ++ (55 :: 32 :: 58 :: 32 :: (40 :: (halfP x b).tail)) := by rw [← hp, ← hT]; simp
    have := g_num e4 (show next _ 0 = ⟨wNum, 0, 1, 7, false, []⟩ by rfl) (.inr ⟨32, _, rfl, rfl, rfl⟩) (a := 4) rfl (z := 5) rfl
    have hv : next T 3 = next T 4 := by rw [u3, tk e4 (show next _ 0 = ⟨wNum, 0, 1, 7, false, []⟩ by rfl) (n := 4) rfl]; rfl
    rw [hv]; exact this
  have e5 : T = [49, 32, 63, 32, 55, 32, 58, 32] ++ (halfP x b) := hT.symm
  have v1 := tk e5 (show next (halfP x b) 0 = ⟨[40], 0, 1, 0, false, []⟩ by rw [hp]; rfl) (n := 8) rfl
  have ov1 : (next T (8)).op = [40] := by rw [v1]; rfl
  have v0 := tk e0 (show next _ 7 = ⟨[40], 8, 9, 0, false, []⟩ by rfl) (n := 7) rfl
  have ov0 : (next T (7)).op = [40] := by rw [v0]; rfl
  have hv : next T 7 = next T 8 := by rw [v0, v1]; rfl
  have f1 : (next T 1).fin = 3 := by rw [u1]; rfl
  have f5 : (next T 5).fin = 7 := by rw [u5]; rfl
  have hpos : (next T 1).pos = 2 := by rw [u1]; rfl
  refine ⟨X, _, hend, g_expr_cond (by rw [ou0]; intro h; exact absurd h.1 (by decide)) ?_⟩
  have := g_tern (b := T) (g_bin g0 (g_loop_end (by rw [ou1]; decide))) (by rw [u1]; rfl) (by rw [f1]; exact g_expr_cond (by rw [ou3]; intro h; exact absurd h.1 (by decide)) (g_cond (g_bin g3 (g_loop_end (by rw [ou5]; decide))) (by rw [ou5]; decide))) (by rw [u5]; rfl) (by rw [f5, hv]; exact g_cond (g_bin hX (g_loop_end (by rw [hend]; decide))) (by rw [hend]; decide))
  rw [hpos] at this
  exact this
theorem half_tern0 (x b : Bs) (hx : isName x) {f : Nat} {e : Ex} {t : Tok} (h : parse b f = .ok e t) :
    ∃ X p tt, tt.op = [] ∧ Gets (expr ([48, 32, 63, 32] ++ (halfP x b ++ [32, 58, 32, 56])) · (next ([48, 32, 63, 32] ++ (halfP x b ++ [32, 58, 32, 56])) 0)) (.tern 2 (.num 0 0) X (.num 8 p)) tt := by
  obtain ⟨X, hX⟩ := half_par [48, 32, 63, 32] [32, 58, 32, 56] x b hx h
  have hp : halfP x b = 40 :: (halfP x b).tail := by simp [halfP]
  generalize hT : [48, 32, 63, 32] ++ (halfP x b ++ [32, 58, 32, 56]) = T at *
  have e0 : T = [] ++ (48 :: 32 :: 63 :: 32 :: (40 :: ((halfP x b).tail ++ [32, 58, 32, 56]))) := by rw [← hT]; rw [hp]; simp
  have e5 : T = [48, 32, 63, 32] ++ (40 :: ((halfP x b).tail ++ [32, 58, 32, 56])) := by rw [← hT]; rw [hp]; simp
  have e6 : T = ([48, 32, 63, 32] ++ halfP x b) ++ [32, 58, 32, 56] := by rw [← hT]; simp
  have u0 := tk e0 (show next _ 0 = ⟨wNum, 0, 1, 0, false, []⟩ by rfl) (n := 0) rfl
  have ou0 : (next T (0)).op = wNum := by rw [u0]; rfl
  have u1 := tk e0 (show next _ 1 = ⟨[63], 2, 3, 0, false, []⟩ by rfl) (n := 1) rfl
  have ou1 : (next T (1)).op = [63] := by rw [u1]; rfl
  have u3 := tk e0 (show next _ 3 = ⟨[40], 4, 5, 0, false, []⟩ by rfl) (n := 3) rfl
  have ou3 : (next T (3)).op = [40] := by rw [u3]; rfl
  have u4 := tk e5 (show next _ 0 = ⟨[40], 0, 1, 0, false, []⟩ by rfl) (n := 4) rfl
  have ou4 : (next T (4)).op = [40] := by rw [u4]; rfl
  have hv : next T 3 = next T 4 := by rw [u3, u4]; rfl
  have g0 := g_num e0 (show next _ 0 = ⟨wNum, 0, 1, 0, false, []⟩ by rfl) (.inr ⟨32, _, rfl, rfl, rfl⟩) (a := 0) rfl (z := 1) rfl
  have c0 := tk e6 (show next _ 0 = ⟨[58], 1, 2, 0, false, []⟩ by rfl) (n := ([48, 32, 63, 32] : Bs).length + (halfP x b).length) (by simp; omega)
  have oc0 : (next T (([48, 32, 63, 32] : Bs).length + (halfP x b).length)).op = [58] := by rw [c0]; rfl
  have c2 := tk e6 (show next _ 2 = ⟨wNum, 3, 4, 8, false, []⟩ by rfl) (n := ([48, 32, 63, 32] : Bs).length + (halfP x b).length + 2) (by simp; omega)
  have oc2 : (next T (([48, 32, 63, 32] : Bs).length + (halfP x b).length + 2)).op = wNum := by rw [c2]; rfl
  have c3 := tk e6 (show next _ 3 = ⟨wNum, 3, 4, 8, false, []⟩ by rfl) (n := ([48, 32, 63, 32] : Bs).length + (halfP x b).length + 3) (by simp; omega)
  have oc3 : (next T (([48, 32, 63, 32] : Bs).length + (halfP x b).length + 3)).op = wNum := by rw [c3]; rfl
  have hv8 : next T (([48, 32, 63, 32] : Bs).length + (halfP x b).length + 2) = next T (([48, 32, 63, 32] : Bs).length + (halfP x b).length + 3) := by rw [c2, c3]
  have g8 := g_num e6 (show next _ 3 = ⟨wNum, 3, 4, 8, false, []⟩ by rfl) (.inl rfl) (a := ([48, 32, 63, 32] : Bs).length + (halfP x b).length + 3) (by simp; omega) (z := ([48, 32, 63, 32] : Bs).length + (halfP x b).length + 4) (by simp; omega)
  have c4 := tk e6 (show next _ 4 = ⟨[], 4, 4, 0, false, []⟩ by rfl) (n := ([48, 32, 63, 32] : Bs).length + (halfP x b).length + 4) (by simp; omega)
  have oc4 : (next T (([48, 32, 63, 32] : Bs).length + (halfP x b).length + 4)).op = [] := by rw [c4]; rfl
  have f1 : (next T 1).fin = 3 := by rw [u1]; rfl
  have fc : (next T (([48, 32, 63, 32] : Bs).length + (halfP x b).length)).fin = ([48, 32, 63, 32] : Bs).length + (halfP x b).length + 2 := by rw [c0]; simp [shT]; omega
  have hpos : (next T 1).pos = 2 := by rw [u1]; rfl
  have hlen : ([48, 32, 63, 32] : Bs).length = 4 := rfl
  refine ⟨X, ([48, 32, 63, 32] : Bs).length + (halfP x b).length + 3, next T (([48, 32, 63, 32] : Bs).length + (halfP x b).length + 4), oc4, g_expr_cond (by rw [ou0]; intro h; exact absurd h.1 (by decide)) ?_⟩
  have := g_tern (b := T) (g_bin g0 (g_loop_end (by rw [ou1]; decide))) (by rw [u1]; rfl) (by rw [f1, hv]; exact g_expr_cond (by rw [ou4]; intro h; exact absurd h.1 (by decide)) (g_cond (g_bin hX (g_loop_end (by rw [oc0]; decide))) (by rw [oc0]; decide))) (by rw [c0]; rfl) (by rw [fc, hv8]; exact g_cond (g_bin g8 (g_loop_end (by rw [oc4]; decide))) (by rw [oc4]; decide))
  rw [hpos] at this
  exact this
end Go.Proofs.YtjllmamblkejjaaGreatDoor
end

/- The laws' in: a text in parentheses. Conditions: a text of at most 2^46 bytes. -/
section
set_option linter.unusedVariables false
set_option linter.unusedSimpArgs false
namespace Go.Proofs.YtjllmamblkejjaaGreatDoor
open Go.RowKit Go.Proofs.YtjllmamblkejjaaGreatDoorW.PrintWords Go.Proofs.YtjllmamblkejjaaGreatDoorW.PrintLast Go.Proofs.YtjllmamblkejjaaGreatDoorW.PrintMore
open PQA Sp
theorem mk_app (a b : Bs) : mk a ++ mk b = mk (a ++ b) := by
  refine ByteArray.ext ?_
  show (mk a ++ mk b).data = _
  rw [ByteArray.data_append]
  simp [mk]
set_option maxRecDepth 100000 in
theorem law_in_calls (b : Bs) (A : Option Addr) (c : Nat) (w : World) (hr : Rb w A b) (hl : b.length ≤ 1000000000) (z : ByteArray) (hz : z = mk ([40] ++ b ++ [41])) :
    Calls Tryz.prog 12 #[.slice A b.length c] w fun e w' => e = .returned (.string z) ∧ w = w' := by
  have hcv := string_of w A c b hr
  have hsz : (mk b).size = b.length := mk_size b
  have hz' : ({ data := #[40] } : ByteArray) ++ mk b ++ { data := #[41] } = z := by
    rw [hz, ← mk_app, ← mk_app]; rfl
  clear hz
  go_enter Tryz.func12, Tryz.ntmps12
  go_wp2_with fail
  go_ret
  exact ⟨rfl, rfl⟩
theorem parsed_of {T : Bs} {e : Ex} {t : Tok} (h : Gets (expr T · (next T 0)) e t) (ht : t.op = []) (hl : T.length ≤ 1024) : parsed T = .ok e t := by
  unfold parsed
  rw [if_pos hl]
  exact parse_gets h ht _ (parse_good T).out
theorem rb_str (T : Bs) (W : World) (hl : T.length ≤ 1000000000) : Rb (Lib.bytesWorld W 5 (mk T)) (some ⟨W.heap.size, 0, none⟩) T := by
  have hr := bytes_reads W 5 (mk T) (by rw [mk_size]; omega)
  have hb : bytesOf (mk T) = ints T := by simp [bytesOf, ints, mk]
  rw [hb] at hr
  rw [mk_size] at hr
  exact Kd.C_of_reads (d := 0) (h1 := fun _ => rfl) hr
/-- Eval of a text made of a string, over variables of the call's own that there are none of. -/
theorem eval_str (E : Nat → Addr) (T : Bs) (z : ByteArray) (hz : z = mk T) (hl : T.length ≤ 1000000000) {ex : Ex} {t : Tok} (hp : parsed T = .ok ex t) {r : Int} (hev : ev (mach []) ex [] = .ok r []) (w W : World) (q : Nat) (hq : q = W.heap.size) (n : Nat) (hn : n = z.size)
    (g bv : Nat) (hE : Env E w) (hv : VarsIn W g bv []) (hB : Below w.heap.size w W) (hbv : w.heap.size ≤ bv) :
    Calls Tryz.prog 13 #[.slice (some ⟨q, 0, none⟩) n (grownCap W n 0 5), .pointer (some ⟨g, 0, none⟩)] (Lib.bytesWorld W 5 z) fun e w' =>
      e = .returned (.tuple #[.int .i64 r, .nilIface]) ∧ VarsIn w' g bv [] ∧ Below w.heap.size w w' := by
  subst hz hq hn
  have hB1 : Below w.heap.size w (Lib.bytesWorld W 5 (mk T)) := bytes_below hB hB.size _ _
  have hv1 : VarsIn (Lib.bytesWorld W 5 (mk T)) g bv [] := hv.below (bytes_below (Below.refl _ _) (Nat.le_refl _) _ _)
  refine (eval_at E T _ _ _ (mk_size T) (.pointer (some ⟨g, 0, none⟩)) [] _ (hE.below hB1) (rb_str T W hl) (by rw [mk_size]; exact grownCap_ge _ _ _ _) hv1.at_ (by simp)).mono ?_
  rintro e w' h
  rw [hp] at h
  obtain ⟨rfl, hv2, hg⟩ := h.vars hv1 hev
  exact ⟨rfl, hv2, hB1.grown hg hB1.size (fun k hk => by cases hk; exact hbv)⟩
theorem ev_and0 (X : Ex) (p q : Nat) : ev (mach []) (.bin [38, 38] p (.num 0 q) X) [] = .ok 0 [] := by
  rw [ev, if_pos rfl]; rfl
theorem ev_or1 (X : Ex) (p q : Nat) : ev (mach []) (.bin [124, 124] p (.num 1 q) X) [] = .ok 1 [] := by
  rw [ev, if_neg (by decide), if_pos rfl]; rfl
theorem ev_tern1 (X Y : Ex) (p q n m : Nat) : ev (mach []) (.tern p (.num 1 q) (.num n m) X) [] = .ok n [] := by
  rw [ev]; rfl
theorem ev_tern0 (X : Ex) (p q n m : Nat) : ev (mach []) (.tern p (.num 0 q) X (.num n m)) [] = .ok n [] := by
  rw [ev]; rfl
end Go.Proofs.YtjllmamblkejjaaGreatDoor
end

/- Plain law: a text without what may be an assignment has none when it is read; the texts of ArithSets. No program in sight. Conditions: x is a name, b reads as an expression. -/
section
set_option linter.unusedVariables false
set_option linter.unusedSimpArgs false
namespace Go.Proofs.YtjllmamblkejjaaGreatDoor
open Sp

/-- What the law's sets looks for, at a place. -/
def SetsAt (b : Bs) (i : Nat) : Prop := b[i]? = some 61 ∧
  (((i = 0 ∨ (b[i - 1]? ≠ some 61 ∧ b[i - 1]? ≠ some 33 ∧ b[i - 1]? ≠ some 60 ∧ b[i - 1]? ≠ some 62)) ∧ b[i + 1]? ≠ some 61) ∨
   (1 < i ∧ b[i - 1]? = b[i - 2]? ∧ (b[i - 1]? = some 60 ∨ b[i - 1]? = some 62)))
def NoSets (b : Bs) : Prop := ∀ i, ¬ SetsAt b i
def NoAsg : Ex → Prop
  | .num .. => True
  | .name .. => True
  | .un _ _ e => NoAsg e
  | .bin _ _ a b => NoAsg a ∧ NoAsg b
  | .tern _ c a b => NoAsg c ∧ NoAsg a ∧ NoAsg b
  | .asg .. => False
theorem val_bind_ok {r : Val} {F : Int → Vs → Val} {x : Int} {s : Vs} (h : r.bind F = .ok x s) : ∃ y s', r = .ok y s' ∧ F y s' = .ok x s := by
  cases r with
  | ok y s' => exact ⟨y, s', rfl, h⟩
  | err c p => simp [Val.bind] at h
theorem num1_same {M : Mach} {s : Vs} {x : Bs} {pos : Nat} {y : Int} {s' : Vs} (h : num1 M s x pos = .ok y s') : s' = s := by
  unfold num1 at h
  split at h
  · injection h with _ h; exact h.symm
  · simp at h
theorem two1_same {M : Mach} {op : Bs} {pos : Nat} {x y : Int} {s : Vs} {z : Int} {s' : Vs} (h : two1 M op pos x y s = .ok z s') : s' = s := by
  unfold two1 at h
  split at h
  · simp at h
  · injection h with _ h; exact h.symm
/-- Without assignments nothing is set. -/
theorem ev_same (M : Mach) : ∀ (e : Ex), NoAsg e → ∀ s x s', ev M e s = .ok x s' → s' = s
  | .num n p, _, s, x, s', h => by rw [ev] at h; injection h with _ h; exact h.symm
  | .name y p, _, s, x, s', h => by rw [ev] at h; exact num1_same h
  | .un op p e, hn, s, x, s', h => by
    rw [ev] at h
    obtain ⟨y, s1, h1, h2⟩ := val_bind_ok h
    injection h2 with _ h2
    rw [← h2]; exact ev_same M e hn s y s1 h1
  | .bin op p a b, hn, s, x, s', h => by
    rw [ev] at h
    split at h
    · obtain ⟨y, s1, h1, h2⟩ := val_bind_ok h
      obtain rfl := ev_same M a hn.1 s y s1 h1
      split at h2
      · injection h2 with _ h2; exact h2.symm
      · obtain ⟨z, s2, h3, h4⟩ := val_bind_ok h2
        injection h4 with _ h4
        rw [← h4]; exact ev_same M b hn.2 _ z s2 h3
    · split at h
      · obtain ⟨y, s1, h1, h2⟩ := val_bind_ok h
        obtain rfl := ev_same M a hn.1 s y s1 h1
        split at h2
        · obtain ⟨z, s2, h3, h4⟩ := val_bind_ok h2
          injection h4 with _ h4
          rw [← h4]; exact ev_same M b hn.2 _ z s2 h3
        · injection h2 with _ h2; exact h2.symm
      · obtain ⟨y, s1, h1, h2⟩ := val_bind_ok h
        obtain rfl := ev_same M a hn.1 s y s1 h1
        obtain ⟨z, s2, h3, h4⟩ := val_bind_ok h2
        rw [two1_same h4]; exact ev_same M b hn.2 _ z s2 h3
  | .tern p c a b, hn, s, x, s', h => by
    rw [ev] at h
    obtain ⟨y, s1, h1, h2⟩ := val_bind_ok h
    obtain rfl := ev_same M c hn.1 s y s1 h1
    split at h2
    · exact ev_same M b hn.2.2 _ x s' h2
    · exact ev_same M a hn.2.1 _ x s' h2
  | .asg .., hn, _, _, _, _ => hn.elim

/-! ### places of tokens -/
theorem letter_part (c : UInt8) (h : letter c = true ∨ isDig c = true) : c ≠ 61 ∧ c ≠ 33 ∧ c ≠ 60 ∧ c ≠ 62 := by
  have h' : (letter c || isDig c) = true := by rcases h with h | h <;> simp [h]
  refine ⟨?_, ?_, ?_, ?_⟩ <;> (rintro rfl; exact absurd h' (by decide))
theorem nameGo_part : ∀ (l : Bs) (i j : Nat), i + j < nameGo l i → ∃ c, l[j]? = some c ∧ (letter c = true ∨ isDig c = true)
  | [], i, j, h => by
    have e : nameGo [] i = i := rfl
    omega
  | c :: cs, i, j, h => by
    rw [nameGo] at h
    split at h
    · omega
    · rename_i hc
      cases j with
      | zero =>
        refine ⟨c, by simp, ?_⟩
        cases hl : letter c
        · cases hd : isDig c
          · rw [hl, hd] at hc; simp at hc
          · exact .inr rfl
        · exact .inl rfl
      | succ j =>
        obtain ⟨d, h1, h2⟩ := nameGo_part cs (i + 1) j (by omega)
        exact ⟨d, by simpa using h1, h2⟩
theorem skip_part : ∀ (l : Bs) (j : Nat), j < skip l → ∃ c, l[j]? = some c ∧ (c = 32 ∨ c = 9 ∨ c = 10)
  | [], j, h => by simp [skip] at h
  | c :: cs, j, h => by
    have e : skip (c :: cs) = if c = 32 ∨ c = 9 ∨ c = 10 then skip cs + 1 else 0 := rfl
    rw [e] at h
    split at h
    · rename_i hc
      cases j with
      | zero => exact ⟨c, by simp, hc⟩
      | succ j =>
        obtain ⟨d, h1, h2⟩ := skip_part cs j (by omega)
        exact ⟨d, by simpa using h1, h2⟩
    · omega
/-- An operator's token: one of the list, and it stands there. -/
theorem tokAt_op {r : Bs} {a : Nat} (h0 : (tokAt r a).op ≠ []) (h1 : (tokAt r a).op ≠ wNum) (h2 : (tokAt r a).op ≠ wName) (h3 : (tokAt r a).op ≠ wNone) :
    (tokAt r a).op ∈ ops ∧ (tokAt r a).op <+: r ∧ (tokAt r a).fin = a + (tokAt r a).op.length := by
  unfold tokAt at *
  split at h0
  · simp at h0
  · rename_i hr
    rw [if_neg hr] at h1 h2 h3 ⊢
    split at h1
    · simp at h1
    · rename_i hc
      rw [if_neg hc] at h2 h3 ⊢
      split at h2
      · simp at h2
      · rename_i hn
        rw [if_neg hn] at h3 ⊢
        split at h3
        · rename_i o ho
          have h4 := List.find?_some ho
          have hm := List.mem_of_find?_eq_some ho
          have h5 : o.length ≤ 3 := (by decide : ∀ x ∈ ops, x.length ≤ 3) o hm
          rw [pre_take _ _ h5, List.isPrefixOf_iff_prefix] at h4
          exact ⟨hm, h4, rfl⟩
        · simp at h3
theorem tok_eq2 (r : Bs) (a : Nat) : (tokAt (61 :: 61 :: r) a).op = [61, 61] := by rfl
theorem tok_eq (r : Bs) (a : Nat) : (tokAt (61 :: r) a).op = [61] ∨ (tokAt (61 :: r) a).op = [61, 61] := by
  rcases r with _ | ⟨c, r⟩
  · exact .inl rfl
  · by_cases h : c = 61
    · subst h; exact .inr rfl
    · left
      have e : tokAt (61 :: c :: r) a = (match ops.find? (fun o => o.isPrefixOf ((61 :: c :: r).take 3)) with
        | some o => ⟨o, a, a + o.length, 0, false, []⟩
        | none => ⟨wNone, a, a, 0, false, []⟩) := rfl
      rw [e]
      have h61 : ((61 : UInt8) == c) = false := by simpa using fun e : (61 : UInt8) = c => h e.symm
      simp [ops, List.isPrefixOf, h61]
theorem drop_get (b : Bs) (p j : Nat) : (b.drop p)[j]? = b[p + j]? := List.getElem?_drop
theorem asg_ops : ∀ o ∈ ops, assigns o = true → o = [60, 60, 61] ∨ o = [62, 62, 61] ∨ o = [61] ∨ ∃ c, o = [c, 61] ∧ c ≠ 61 ∧ c ≠ 33 ∧ c ≠ 60 ∧ c ≠ 62 := by
  intro o ho ha
  unfold ops at ho
  simp only [List.mem_cons, List.not_mem_nil, or_false] at ho
  rcases ho with rfl | rfl | rfl | rfl | rfl | rfl | rfl | rfl | rfl | rfl | rfl | rfl | rfl | rfl | rfl | rfl | rfl | rfl | rfl | rfl | rfl | rfl | rfl | rfl | rfl | rfl | rfl | rfl | rfl | rfl | rfl | rfl | rfl | rfl | rfl <;>
    first
      | exact absurd ha (by decide)
      | exact .inl rfl
      | exact .inr (.inl rfl)
      | exact .inr (.inr (.inl rfl))
      | exact .inr (.inr (.inr ⟨_, rfl, by decide, by decide, by decide, by decide⟩))
theorem next_get {b : Bs} {a : Nat} {p : Nat} (h : b[a]? = some 61) : (next b a).op = [61] ∨ (next b a).op = [61, 61] := by
  obtain ⟨hlt, he⟩ := List.getElem?_eq_some_iff.1 h
  have hd : b.drop a = 61 :: b.drop (a + 1) := by rw [List.drop_eq_getElem_cons hlt, he]
  have hs : skip (b.drop a) = 0 := by rw [hd]; rfl
  unfold next
  rw [hs, Nat.add_zero, hd]
  exact tok_eq _ _
/-- What stands behind an assignment's sign begins with another =, if the text has no assignment. -/
theorem asg_behind {b : Bs} (hb : NoSets b) {t : Tok} (ht : Tk b t) (ho : t.op = wName) (ha : assigns (next b t.fin).op = true) :
    (next b (next b t.fin).fin).op = [61] ∨ (next b (next b t.fin).fin).op = [61, 61] := by
  obtain ⟨a, hal, rfl⟩ := ht
  have hfin : (next b a).fin ≤ b.length := (next_fin b a hal).1
  -- the byte ahead of the sign is a part of the name, or white
  have hpre : ∀ p, p = (next b a).fin + skip (b.drop (next b a).fin) → 0 < p ∧ ∃ c, b[p - 1]? = some c ∧ c ≠ 61 ∧ c ≠ 33 ∧ c ≠ 60 ∧ c ≠ 62 := by
    rintro p rfl
    by_cases hs : skip (b.drop (next b a).fin) = 0
    · rw [hs, Nat.add_zero]
      -- the name's end
      unfold next at ho ⊢
      generalize hq : a + skip (b.drop a) = q at *
      have : 0 < name (b.drop q) ∧ (tokAt (b.drop q) q).fin = q + name (b.drop q) := by
        unfold tokAt at ho ⊢
        split at ho
        · exact absurd (show ([] : Bs) = wName from ho) (by decide)
        · rename_i hr
          rw [if_neg hr]
          split at ho
          · exact absurd (show wNum = wName from ho) (by decide)
          · rename_i hc
            rw [if_neg hc]
            split at ho
            · rename_i hn
              rw [if_pos hn]
              exact ⟨hn, rfl⟩
            · split at ho
              · rename_i o hf
                exact absurd (by simpa using ho) ((by decide : ∀ x ∈ ops, x ≠ wName) o (List.mem_of_find?_eq_some hf))
              · exact absurd (show wNone = wName from ho) (by decide)
      obtain ⟨h1, h2⟩ := this
      rw [h2]
      obtain ⟨c, hc, hp⟩ := nameGo_part (b.drop q) 0 (name (b.drop q) - 1) (by have : nameGo (b.drop q) 0 = name (b.drop q) := rfl; omega)
      refine ⟨by omega, c, ?_, letter_part c hp⟩
      rw [drop_get] at hc
      rw [← hc]; congr 1; omega
    · obtain ⟨c, hc, hp⟩ := skip_part (b.drop (next b a).fin) (skip (b.drop (next b a).fin) - 1) (by omega)
      refine ⟨by omega, c, ?_, ?_⟩
      · rw [drop_get] at hc
        rw [← hc]; congr 1; omega
      · rcases hp with rfl | rfl | rfl <;> exact ⟨by decide, by decide, by decide, by decide⟩
  generalize (next b a).fin = z at *
  generalize hp : z + skip (b.drop z) = p at *
  have hu : next b z = tokAt (b.drop p) p := by unfold next; rw [hp]
  rw [hu] at ha ⊢
  obtain ⟨h0, c0, hc0, hn0⟩ := hpre p rfl
  have hne : (tokAt (b.drop p) p).op ≠ [] ∧ (tokAt (b.drop p) p).op ≠ wNum ∧ (tokAt (b.drop p) p).op ≠ wName ∧ (tokAt (b.drop p) p).op ≠ wNone := by
    refine ⟨?_, ?_, ?_, ?_⟩ <;> (intro e; rw [e] at ha; exact absurd ha (by decide))
  obtain ⟨hm, hpre', hf⟩ := tokAt_op hne.1 hne.2.1 hne.2.2.1 hne.2.2.2
  rw [hf]
  have hg : ∀ j (hj : j < (tokAt (b.drop p) p).op.length), b[p + j]? = some (tokAt (b.drop p) p).op[j] := by
    intro j hj
    rw [← drop_get]
    obtain ⟨r, hr⟩ := hpre'
    have h1 : ((tokAt (b.drop p) p).op ++ r)[j]? = some (tokAt (b.drop p) p).op[j] := by rw [List.getElem?_append_left hj, List.getElem?_eq_getElem hj]
    exact (congrArg (fun l : Bs => l[j]?) hr).symm.trans h1
  have two_eq : (tokAt (b.drop p) p).op = [61] → b[p + 1]? ≠ some 61 := by
    intro e h61
    have h1 := hg 0 (by rw [e]; decide)
    simp only [e, List.getElem_cons_zero, Nat.add_zero] at h1
    obtain ⟨hlt, he⟩ := List.getElem?_eq_some_iff.1 h1
    obtain ⟨hlt2, he2⟩ := List.getElem?_eq_some_iff.1 h61
    have hd : b.drop p = 61 :: 61 :: b.drop (p + 2) := by rw [List.drop_eq_getElem_cons hlt, he, List.drop_eq_getElem_cons hlt2, he2]
    rw [hd, tok_eq2] at e
    exact absurd e (by decide)
  rcases asg_ops _ hm ha with e | e | e | ⟨c, e, hc⟩
  · exfalso
    have g0 := hg 0 (by rw [e]; decide)
    have g1 := hg 1 (by rw [e]; decide)
    have g2 := hg 2 (by rw [e]; decide)
    simp only [e, List.getElem_cons_zero, List.getElem_cons_succ, Nat.add_zero] at g0 g1 g2
    exact hb (p + 2) ⟨g2, .inr ⟨by omega, by rw [show p + 2 - 1 = p + 1 by omega, show p + 2 - 2 = p by omega, g0, g1], by rw [show p + 2 - 1 = p + 1 by omega, g1]; simp⟩⟩
  · exfalso
    have g0 := hg 0 (by rw [e]; decide)
    have g1 := hg 1 (by rw [e]; decide)
    have g2 := hg 2 (by rw [e]; decide)
    simp only [e, List.getElem_cons_zero, List.getElem_cons_succ, Nat.add_zero] at g0 g1 g2
    exact hb (p + 2) ⟨g2, .inr ⟨by omega, by rw [show p + 2 - 1 = p + 1 by omega, show p + 2 - 2 = p by omega, g0, g1], by rw [show p + 2 - 1 = p + 1 by omega, g1]; simp⟩⟩
  · exfalso
    have g0 := hg 0 (by rw [e]; decide)
    simp only [e, List.getElem_cons_zero, Nat.add_zero] at g0
    refine hb p ⟨g0, .inl ⟨.inr ?_, two_eq e⟩⟩
    rw [hc0]
    simp only [ne_eq, Option.some.injEq]
    exact hn0
  · have g0 := hg 0 (by rw [e]; simp)
    have g1 := hg 1 (by rw [e]; simp)
    simp only [e, List.getElem_cons_zero, List.getElem_cons_succ, Nat.add_zero] at g0 g1
    have h2 : b[p + 2]? = some 61 := by
      refine Classical.byContradiction fun h2 => hb (p + 1) ⟨g1, .inl ⟨.inr ?_, h2⟩⟩
      rw [show p + 1 - 1 = p by omega, g0]
      simp only [ne_eq, Option.some.injEq]
      exact hc
    rw [show (tokAt (b.drop p) p).op.length = 2 by rw [e]; rfl]
    exact next_get (p := p) h2

/-- No expression begins with =. -/
theorem expr_eq_bad {b : Bs} {t : Tok} (h : t.op = [61] ∨ t.op = [61, 61]) (f : Nat) {e : Ex} {t' : Tok} : expr b f t ≠ .ok e t' := by
  intro hx
  have hno : ∀ o : Bs, o ≠ [61] → o ≠ [61, 61] → t.op ≠ o := fun o h1 h2 e => by
    rcases h with h | h
    · exact h1 (e.symm.trans h)
    · exact h2 (e.symm.trans h)
  have hop : ∀ f e t', operand b f t ≠ .ok e t' := by
    intro f e t' ho
    cases f with
    | zero => simp [operand] at ho
    | succ f =>
      rw [operand, if_neg (by intro h; rcases h with h | h <;> exact hno _ (by decide) (by decide) h), if_neg (by intro h; rcases h with h | h <;> exact hno _ (by decide) (by decide) h), if_neg (hno _ (by decide) (by decide)), if_neg (hno _ (by decide) (by decide)), if_neg (hno _ (by decide) (by decide))] at ho
      simp [bar] at ho
  cases f with
  | zero => simp [expr] at hx
  | succ f =>
    rw [expr, if_neg (fun a => hno _ (by decide) (by decide) a.1)] at hx
    cases f with
    | zero => simp [Sp.cond] at hx
    | succ f =>
      rw [Sp.cond] at hx
      obtain ⟨a, t1, h1, _⟩ := bind_ok hx
      cases f with
      | zero => simp [bin] at h1
      | succ f =>
        rw [bin] at h1
        obtain ⟨a2, t2, h2, _⟩ := bind_ok h1
        exact hop _ _ _ h2
structure NoAt (b : Bs) (f : Nat) : Prop where
  expr : ∀ t e t', Tk b t → Sp.expr b f t = .ok e t' → NoAsg e ∧ Tk b t'
  cond : ∀ t e t', Tk b t → Sp.cond b f t = .ok e t' → NoAsg e ∧ Tk b t'
  bin : ∀ l t e t', Tk b t → Sp.bin b f l t = .ok e t' → NoAsg e ∧ Tk b t'
  loop : ∀ l x t e t', Tk b t → NoAsg x → Sp.loop b f l x t = .ok e t' → NoAsg e ∧ Tk b t'
  operand : ∀ t e t', Tk b t → Sp.operand b f t = .ok e t' → NoAsg e ∧ Tk b t'
theorem no_all (b : Bs) (hb : NoSets b) : ∀ f, NoAt b f := by
  intro f
  induction f with
  | zero => exact ⟨fun t e t' _ h => by simp [Sp.expr] at h, fun t e t' _ h => by simp [Sp.cond] at h, fun l t e t' _ h => by simp [Sp.bin] at h, fun l x t e t' _ _ h => by simp [Sp.loop] at h, fun t e t' _ h => by simp [Sp.operand] at h⟩
  | succ f ih =>
    refine ⟨fun t e t' hf h => ?_, fun t e t' hf h => ?_, fun l t e t' hf h => ?_, fun l x t e t' hf hx h => ?_, fun t e t' hf h => ?_⟩
    · rw [Sp.expr] at h
      by_cases hc : t.op = wName ∧ assigns (next b t.fin).op = true
      · rw [if_pos hc] at h
        obtain ⟨a, t1, h1, _⟩ := bind_ok h
        exact absurd h1 (expr_eq_bad (asg_behind hb hf hc.1 hc.2) _)
      · rw [if_neg hc] at h
        exact ih.cond t e t' hf h
    · rw [Sp.cond] at h
      obtain ⟨a, t1, h1, h2⟩ := bind_ok h
      obtain ⟨k1, k2⟩ := ih.bin 0 t a t1 hf h1
      by_cases hq : t1.op = [63]
      · rw [if_pos hq] at h2
        obtain ⟨a2, t2, h3, h4⟩ := bind_ok h2
        obtain ⟨k3, k4⟩ := ih.expr _ _ _ k2.next h3
        by_cases hc : t2.op = [58]
        · rw [if_pos hc] at h4
          obtain ⟨a3, t3, h5, h6⟩ := bind_ok h4
          obtain ⟨k5, k6⟩ := ih.cond _ _ _ k4.next h5
          injection h6 with h7 h8
          subst h7 h8
          exact ⟨⟨k1, k3, k5⟩, k6⟩
        · rw [if_neg hc] at h4; simp [bar] at h4
      · rw [if_neg hq] at h2
        injection h2 with h3 h4
        subst h3 h4
        exact ⟨k1, k2⟩
    · rw [Sp.bin] at h
      obtain ⟨a, t1, h1, h2⟩ := bind_ok h
      obtain ⟨k1, k2⟩ := ih.operand t a t1 hf h1
      exact ih.loop l a t1 e t' k2 k1 h2
    · rw [Sp.loop] at h
      by_cases hs : strength t.op < l + 1
      · rw [if_pos hs] at h
        injection h with h1 h2
        subst h1 h2
        exact ⟨hx, hf⟩
      · rw [if_neg hs] at h
        obtain ⟨a, t1, h1, h2⟩ := bind_ok h
        obtain ⟨k1, k2⟩ := ih.bin _ _ a t1 hf.next h1
        exact ih.loop l (.bin t.op t.pos x a) t1 e t' k2 ⟨hx, k1⟩ h2
    · rw [Sp.operand] at h
      by_cases h1 : t.op = [43] ∨ t.op = [45]
      · rw [if_pos h1] at h
        obtain ⟨a, t1, h2, h3⟩ := bind_ok h
        injection h3 with h4 h5
        subst h4 h5
        exact ih.operand _ a _ hf.next h2
      rw [if_neg h1] at h
      by_cases h1 : t.op = [33] ∨ t.op = [126]
      · rw [if_pos h1] at h
        obtain ⟨a, t1, h2, h3⟩ := bind_ok h
        injection h3 with h4 h5
        subst h4 h5
        exact ih.operand _ a _ hf.next h2
      rw [if_neg h1] at h
      by_cases h1 : t.op = wNum
      · rw [if_pos h1] at h
        unfold constant at h
        split at h
        · simp at h
        · split at h
          · injection h with h4 h5
            subst h4 h5
            exact ⟨trivial, hf.next⟩
          · split at h
            · simp at h
            · injection h with h4 h5
              subst h4 h5
              exact ⟨trivial, hf.next⟩
      rw [if_neg h1] at h
      by_cases h1 : t.op = wName
      · rw [if_pos h1] at h
        injection h with h4 h5
        subst h4 h5
        exact ⟨trivial, hf.next⟩
      rw [if_neg h1] at h
      by_cases h1 : t.op = [40]
      · rw [if_pos h1] at h
        obtain ⟨a, t1, h2, h3⟩ := bind_ok h
        obtain ⟨k1, k2⟩ := ih.expr _ _ _ hf.next h2
        by_cases hc : t1.op = [41]
        · rw [if_pos hc] at h3
          injection h3 with h4 h5
          subst h4 h5
          exact ⟨k1, k2.next⟩
        · rw [if_neg hc] at h3; simp [bar] at h3
      rw [if_neg h1] at h
      simp [bar] at h
theorem parse_no {b : Bs} (hb : NoSets b) {f : Nat} {e : Ex} {t : Tok} (h : parse b f = .ok e t) : NoAsg e := by
  obtain ⟨_, hx⟩ := parse_inv h
  exact ((no_all b hb f).expr _ _ _ ⟨0, Nat.zero_le _, rfl⟩ hx).1
end Go.Proofs.YtjllmamblkejjaaGreatDoor
end

/- Plain law: the texts of ArithSets, and what they come to. No program in sight. Conditions: x is a name, b reads as an expression. -/
section
set_option linter.unusedVariables false
set_option linter.unusedSimpArgs false
namespace Go.Proofs.YtjllmamblkejjaaGreatDoor
open Sp

theorem next_nil {T : Bs} {n : Nat} (h : n = T.length) : (next T n).op = [] := by
  subst h; unfold next; rw [List.drop_length]; simp [skip, tokAt]
/-- A sign and a parenthesis ahead of b, at its place in T. -/
structure Sign (s op : Bs) (p q : Nat) : Prop where
  first : ∀ r : Bs, next (s ++ 40 :: r) 0 = ⟨op, p, q, 0, false, []⟩
  par : ∀ r : Bs, next (s ++ 40 :: r) q = ⟨[40], s.length, s.length + 1, 0, false, []⟩
  le : q ≤ s.length
theorem paren_at (P b : Bs) {f : Nat} {e : Ex} {t : Tok} (h : parse b f = .ok e t) {t0 : Tok} (h0 : t0.op = [40]) (hp : t0.fin = P.length) {T : Bs} (hT : T = P ++ b ++ [41]) :
    Gets (operand T · t0) (shE P.length e) (next T T.length) := by
  subst hT
  have := parens_get P b [] h h0 hp
  rwa [show (P ++ b ++ [41] : Bs).length = P.length + b.length + 1 by simp; omega]
/-- name s (b), where s is an assignment's sign. -/
theorem sets_one (x b s op : Bs) {p q : Nat} (hx : isName x) {f : Nat} {e : Ex} {t : Tok} (h : parse b f = .ok e t) (hs : Sign s op p q) (ha : assigns op = true)
    (hh : ∃ c cs, s = c :: cs ∧ letter c = false ∧ isDig c = false) {T : Bs} (hT : T = x ++ s ++ ([40] ++ b ++ [41])) :
    ∃ tt, tt.op = [] ∧ Gets (expr T · (next T 0)) (.asg op x 0 (p + x.length) (shE (x.length + s.length + 1) e)) tt := by
  obtain ⟨c, cs, hsc, hl, hd⟩ := hh
  have e0 : T = [] ++ (x ++ c :: (cs ++ 40 :: (b ++ [41]))) := by rw [hT, hsc]; simp
  have e1 : T = x ++ (s ++ 40 :: (b ++ [41])) := by rw [hT]; simp
  have e2 : T = (x ++ s ++ [40]) ++ b ++ [41] := by rw [hT]; simp
  have t0 := tk e0 (next_name hx c _ hl hd) (n := 0) rfl
  have t1 := tk e1 (hs.first _) (n := x.length) (by simp)
  have t2 := tk e1 (hs.par _) (n := x.length + q) (by simp)
  have hend : (next T T.length).op = [] := next_nil rfl
  have f0 : (next T 0).fin = x.length := by rw [t0]; simp [shT]
  have f1 : (next T x.length).fin = x.length + q := by rw [t1]; simp [shT]; omega
  have n0 : (next T 0).name = x := by rw [t0]; rfl
  have p0 : (next T 0).pos = 0 := by rw [t0]; rfl
  have o1 : (next T x.length).op = op := by rw [t1]; rfl
  have p1 : (next T x.length).pos = p + x.length := by rw [t1]; rfl
  have g := paren_at (x ++ s ++ [40]) b h (t0 := next T (x.length + q)) (by rw [t2]; rfl) (by rw [t2]; simp [shT]; omega) e2
  rw [show (x ++ s ++ [40] : Bs).length = x.length + s.length + 1 by simp; omega] at g
  have o2 : (next T (x.length + q)).op = [40] := by rw [t2]; rfl
  have ge : Gets (expr T · (next T (x.length + q))) (shE (x.length + s.length + 1) e) (next T T.length) :=
    g_expr_cond (by rw [o2]; intro h; exact absurd h.1 (by decide)) (g_cond (g_bin g (g_loop_end (by rw [hend]; decide))) (by rw [hend]; decide))
  refine ⟨_, hend, ?_⟩
  have := g_expr_asg (b := T) (t := next T 0) (by rw [t0]; rfl) (by rw [f0, o1]; exact ha) (by rw [f0, f1]; exact ge)
  rw [f0, n0, p0, o1, p1] at this
  exact this
/-- name = name s (b), where s is an operator's sign. -/
theorem sets_two (x b s op : Bs) {p q : Nat} (hx : isName x) {f : Nat} {e : Ex} {t : Tok} (h : parse b f = .ok e t) (hs : Sign s op p q) (ha : assigns op = false) (hst : 0 < strength op)
    (hh : ∃ c cs, s = c :: cs ∧ letter c = false ∧ isDig c = false) {T : Bs} (hT : T = x ++ [61] ++ x ++ s ++ ([40] ++ b ++ [41])) :
    ∃ tt p1 p2 p3, tt.op = [] ∧ Gets (expr T · (next T 0)) (.asg [61] x 0 p1 (.bin op p2 (.name x p3) (shE (x.length + 1 + x.length + s.length + 1) e))) tt := by
  obtain ⟨c, cs, hsc, hl, hd⟩ := hh
  have e0 : T = [] ++ (x ++ 61 :: (x ++ s ++ 40 :: (b ++ [41]))) := by rw [hT]; simp
  have e1 : T = x ++ (61 :: (x ++ s ++ 40 :: (b ++ [41]))) := by rw [hT]; simp
  have e2 : T = (x ++ [61]) ++ (x ++ c :: (cs ++ 40 :: (b ++ [41]))) := by rw [hT, hsc]; simp
  have e3 : T = (x ++ [61] ++ x) ++ (s ++ 40 :: (b ++ [41])) := by rw [hT]; simp
  have e4 : T = (x ++ [61] ++ x ++ s ++ [40]) ++ b ++ [41] := by rw [hT]; simp
  have hxe : next (61 :: (x ++ s ++ 40 :: (b ++ [41]))) 0 = ⟨[61], 0, 1, 0, false, []⟩ := by
    obtain ⟨y, r, hy, hyl⟩ := name_head hx
    have hy61 : y ≠ 61 := (letter_part y (.inl hyl)).1
    have h61 : ((61 : UInt8) == y) = false := by simpa using fun e : (61 : UInt8) = y => hy61 e.symm
    rw [hy]
    have e : ∀ r' : Bs, next (61 :: (y :: r')) 0 = (match ops.find? (fun o => o.isPrefixOf ((61 :: y :: r').take 3)) with
        | some o => ⟨o, 0, 0 + o.length, 0, false, []⟩
        | none => ⟨wNone, 0, 0, 0, false, []⟩) := fun r' => rfl
    simp only [List.cons_append]
    rw [e]
    simp [ops, List.isPrefixOf, h61]
  have t0 := tk e0 (next_name hx 61 _ rfl rfl) (n := 0) rfl
  have t1 := tk e1 hxe (n := x.length) (by simp)
  have t2 := tk e2 (next_name hx c _ hl hd) (n := x.length + 1) (by simp)
  have t3 := tk e3 (hs.first _) (n := x.length + 1 + x.length) (by simp; omega)
  have t4 := tk e3 (hs.par _) (n := x.length + 1 + x.length + q) (by simp; omega)
  have hend : (next T T.length).op = [] := next_nil rfl
  have f0 : (next T 0).fin = x.length := by rw [t0]; simp [shT]
  have f1 : (next T x.length).fin = x.length + 1 := by rw [t1]; simp [shT]; omega
  have f2 : (next T (x.length + 1)).fin = x.length + 1 + x.length := by rw [t2]; simp [shT]; omega
  have f3 : (next T (x.length + 1 + x.length)).fin = x.length + 1 + x.length + q := by rw [t3]; simp [shT]; omega
  have n0 : (next T 0).name = x := by rw [t0]; rfl
  have p0 : (next T 0).pos = 0 := by rw [t0]; rfl
  have n2 : (next T (x.length + 1)).name = x := by rw [t2]; rfl
  have o1 : (next T x.length).op = [61] := by rw [t1]; rfl
  have o2 : (next T (x.length + 1)).op = wName := by rw [t2]; rfl
  have o3 : (next T (x.length + 1 + x.length)).op = op := by rw [t3]; rfl
  have g := paren_at (x ++ [61] ++ x ++ s ++ [40]) b h (t0 := next T (x.length + 1 + x.length + q)) (by rw [t4]; rfl) (by rw [t4]; simp [shT]; omega) e4
  rw [show (x ++ [61] ++ x ++ s ++ [40] : Bs).length = x.length + 1 + x.length + s.length + 1 by simp; omega] at g
  have gn := g_operand_name (b := T) o2
  rw [n2, f2] at gn
  have gl := g_loop_on (b := T) (l := 0) (t := next T (x.length + 1 + x.length)) (e := .name x (next T (x.length + 1)).pos) (by rw [o3]; omega) (by rw [f3]; exact g_bin g (g_loop_end (by rw [hend]; exact Nat.succ_pos _))) (g_loop_end (by rw [hend]; decide))
  rw [o3] at gl
  have ge := g_expr_cond (b := T) (t := next T (x.length + 1)) (by rw [f2, o3, ha]; intro h; exact absurd h.2 (by decide)) (g_cond (g_bin gn gl) (by rw [hend]; decide))
  have := g_expr_asg (b := T) (t := next T 0) (by rw [t0]; rfl) (by rw [f0, o1]; decide) (by rw [f0, f1]; exact ge)
  rw [f0, n0, p0, o1] at this
  exact ⟨_, _, _, _, hend, this⟩

/-! ### the signs -/
def opsL : List Bs := [[43], [45], [42], [47], [37], [38], [124], [94], [60, 60], [62, 62]]
theorem sign_eq : Sign [32, 61, 32] [61] 1 2 := ⟨fun _ => rfl, fun _ => rfl, by decide⟩
structure OpOk (o : Bs) : Prop where
  one : Sign (o ++ [61]) (o ++ [61]) 0 (o.length + 1)
  two : Sign o o 0 o.length
  ha1 : assigns (o ++ [61]) = true
  ha2 : assigns o = false
  st : 0 < strength o
  h1 : ∃ c cs, o ++ [61] = c :: cs ∧ letter c = false ∧ isDig c = false
  h2 : ∃ c cs, o = c :: cs ∧ letter c = false ∧ isDig c = false
  ne1 : o ≠ [38, 38]
  ne2 : o ≠ [124, 124]
  len : o.length ≤ 2
  ne3 : o ++ [61] ≠ [61]
theorem ops_ok : ∀ o ∈ opsL, OpOk o := by
  intro o ho
  unfold opsL at ho
  simp only [List.mem_cons, List.not_mem_nil, or_false] at ho
  rcases ho with rfl | rfl | rfl | rfl | rfl | rfl | rfl | rfl | rfl | rfl <;>
    exact ⟨⟨fun _ => rfl, fun _ => rfl, by decide⟩, ⟨fun _ => rfl, fun _ => rfl, by decide⟩, by decide, by decide, by decide, ⟨_, _, rfl, rfl, rfl⟩, ⟨_, _, rfl, rfl, rfl⟩, by decide, by decide, by decide, by decide⟩

/-! ### what they come to -/
theorem mset_nil (x v : Bs) : mset x v [] = [(x, v)] := rfl
theorem ev_asg_eq (M : Mach) (x : Bs) (p q k : Nat) {e : Ex} (hn : NoAsg e) {y : Int} {s : Vs} (h : ev M e [] = .ok y s) : ev M (.asg [61] x p q (shE k e)) [] = .ok y [(x, text y)] := by
  obtain rfl := ev_same M e hn _ _ _ h
  rw [ev, if_pos rfl, ev_sh, h]
  rfl
theorem ev_asg_bad (M : Mach) (x : Bs) (p q k : Nat) {e : Ex} {c d : Nat} (h : ev M e [] = .err c d) : ev M (.asg [61] x p q (shE k e)) [] = .err c (d + k) := by
  rw [ev, if_pos rfl, ev_sh, h]
  rfl
theorem ev_ok {M : Mach} {e : Ex} (hn : NoAsg e) {y : Int} {s : Vs} (h : ev M e [] = .ok y s) : ev M e [] = .ok y [] := by
  obtain rfl := ev_same M e hn _ _ _ h
  exact h
/-- Both forms come to the same, or to the same code. -/
theorem ev_forms (M : Mach) (x : Bs) {o : Bs} (ho : OpOk o) {e : Ex} (hn : NoAsg e) (p1 q1 k1 p2 q2 r2 n2 k2 : Nat) :
    (∃ z, ev M (.asg (o ++ [61]) x p1 q1 (shE k1 e)) [] = .ok z [(x, text z)] ∧ ev M (.asg [61] x p2 q2 (.bin o r2 (.name x n2) (shE k2 e))) [] = .ok z [(x, text z)]) ∨
    (∃ c d1 d2, ev M (.asg (o ++ [61]) x p1 q1 (shE k1 e)) [] = .err c d1 ∧ ev M (.asg [61] x p2 q2 (.bin o r2 (.name x n2) (shE k2 e))) [] = .err c d2) := by
  have hdl : (o ++ [61] : Bs).dropLast = o := by simp
  rw [ev, ev, if_neg ho.ne3, if_pos rfl, hdl, ev, if_neg ho.ne1, if_neg ho.ne2, ev]
  unfold num1
  by_cases hc : (number (look M [] x)).2 = 0
  · rw [if_pos hc, if_pos hc]
    simp only [Val.bind]
    rw [ev_sh, ev_sh]
    cases he : ev M e [] with
    | err c d => exact .inr ⟨c, _, _, rfl, rfl⟩
    | ok y s =>
      obtain rfl := ev_same M e hn _ _ _ he
      simp only [shV, two1]
      by_cases hz : y = 0 ∧ divides o
      · rw [if_pos hz, if_pos hz]; exact .inr ⟨_, _, _, rfl, rfl⟩
      · rw [if_neg hz, if_neg hz]; exact .inl ⟨_, rfl, rfl⟩
  · rw [if_neg hc, if_neg hc]
    exact .inr ⟨_, _, _, rfl, rfl⟩
end Go.Proofs.YtjllmamblkejjaaGreatDoor
end

/- Values are of 64 bits, errors' codes are known ones; Eval over variables, in one word. No conditions. -/
section
set_option linter.unusedVariables false
set_option linter.unusedSimpArgs false
namespace Go.Proofs.YtjllmamblkejjaaGreatDoor
open Go.RowKit Go.Proofs.YtjllmamblkejjaaGreatDoorW.PrintWords Go.Proofs.YtjllmamblkejjaaGreatDoorW.PrintLast Go.Proofs.YtjllmamblkejjaaGreatDoorW.PrintMore
open PQA Sp

theorem num1_in {m set : Vs} {x : Bs} {pos : Nat} {r : Int} {s : Vs} (h : num1 (mach m) set x pos = .ok r s) : In64 r := by
  unfold num1 at h
  split at h
  · injection h with h _
    rw [← h]; exact number_range _
  · simp at h
theorem two1_in {m : Vs} {op : Bs} {pos : Nat} {x y : Int} {s s' : Vs} {r : Int} (hx : In64 x) (h : two1 (mach m) op pos x y s = .ok r s') : In64 r := by
  unfold two1 at h
  split at h
  · simp at h
  · rename_i hz
    injection h with h _
    rw [← h]; exact (two_some op x y hz hx).2
theorem ev_in (m : Vs) : ∀ (e : Ex), Nums e → ∀ s r s', ev (mach m) e s = .ok r s' → In64 r
  | .num n p, hn, s, r, s', h => by
    rw [ev] at h
    injection h with h _
    have hn : n ≤ maxI := hn
    unfold maxI at hn
    unfold In64; omega
  | .name x p, _, s, r, s', h => by rw [ev] at h; exact num1_in h
  | .un op p e, hn, s, r, s', h => by
    rw [ev] at h
    obtain ⟨y, s1, h1, h2⟩ := val_bind_ok h
    injection h2 with h2 _
    rw [← h2]; exact one_in (ev_in m e hn s y s1 h1)
  | .bin op p a b, hn, s, r, s', h => by
    rw [ev] at h
    split at h
    · obtain ⟨y, s1, h1, h2⟩ := val_bind_ok h
      split at h2
      · injection h2 with h2 _; rw [← h2]; unfold In64; omega
      · obtain ⟨z, s2, h3, h4⟩ := val_bind_ok h2
        injection h4 with h4 _
        rw [← h4]; exact in_tr _
    · split at h
      · obtain ⟨y, s1, h1, h2⟩ := val_bind_ok h
        split at h2
        · obtain ⟨z, s2, h3, h4⟩ := val_bind_ok h2
          injection h4 with h4 _
          rw [← h4]; exact in_tr _
        · injection h2 with h2 _; rw [← h2]; unfold In64; omega
      · obtain ⟨y, s1, h1, h2⟩ := val_bind_ok h
        obtain ⟨z, s2, h3, h4⟩ := val_bind_ok h2
        exact two1_in (ev_in m a hn.1 s y s1 h1) h4
  | .tern p c a b, hn, s, r, s', h => by
    rw [ev] at h
    obtain ⟨y, s1, h1, h2⟩ := val_bind_ok h
    split at h2
    · exact ev_in m b hn.2.2 _ r s' h2
    · exact ev_in m a hn.2.1 _ r s' h2
  | .asg op x p q e, hn, s, r, s', h => by
    rw [ev] at h
    split at h
    · obtain ⟨y, s1, h1, h2⟩ := val_bind_ok h
      injection h2 with h2 _
      rw [← h2]; exact ev_in m e hn s y s1 h1
    · obtain ⟨y, s1, h1, h2⟩ := val_bind_ok h
      obtain ⟨z, s2, h3, h4⟩ := val_bind_ok h2
      obtain ⟨u, s3, h5, h6⟩ := val_bind_ok h4
      injection h6 with h6 _
      rw [← h6]; exact two1_in (num1_in h1) h5
def Code21 (c : Nat) : Prop := 1 ≤ c ∧ c ≤ 21
theorem val_bind_err {r : Val} {F : Int → Vs → Val} {c p : Nat} (h : r.bind F = .err c p) : r = .err c p ∨ ∃ y s', r = .ok y s' ∧ F y s' = .err c p := by
  cases r with
  | ok y s' => exact .inr ⟨y, s', rfl, h⟩
  | err c' p' => exact .inl h
theorem num1_code {m set : Vs} {x : Bs} {pos c p : Nat} (h : num1 (mach m) set x pos = .err c p) : Code21 c := by
  unfold num1 at h
  split at h
  · simp at h
  · rename_i hz
    injection h with h _
    rcases number_code (look (mach m) set x) with h1 | h1
    · exact absurd h1 hz
    · rw [← h]; exact h1
theorem two1_code {m : Vs} {op : Bs} {pos : Nat} {x y : Int} {s : Vs} {c p : Nat} (h : two1 (mach m) op pos x y s = .err c p) : Code21 c := by
  unfold two1 at h
  split at h
  · injection h with h _
    rw [← h]; exact ⟨by decide, by decide⟩
  · simp at h
theorem ev_code (m : Vs) : ∀ (e : Ex) s c p, ev (mach m) e s = .err c p → Code21 c
  | .num n q, s, c, p, h => by rw [ev] at h; simp at h
  | .name x q, s, c, p, h => by rw [ev] at h; exact num1_code h
  | .un op q e, s, c, p, h => by
    rw [ev] at h
    rcases val_bind_err h with h | ⟨y, s1, h1, h2⟩
    · exact ev_code m e s c p h
    · simp at h2
  | .bin op q a b, s, c, p, h => by
    rw [ev] at h
    split at h
    · rcases val_bind_err h with h | ⟨y, s1, h1, h2⟩
      · exact ev_code m a s c p h
      · split at h2
        · simp at h2
        · rcases val_bind_err h2 with h | ⟨z, s2, h3, h4⟩
          · exact ev_code m b _ c p h
          · simp at h4
    · split at h
      · rcases val_bind_err h with h | ⟨y, s1, h1, h2⟩
        · exact ev_code m a s c p h
        · split at h2
          · rcases val_bind_err h2 with h | ⟨z, s2, h3, h4⟩
            · exact ev_code m b _ c p h
            · simp at h4
          · simp at h2
      · rcases val_bind_err h with h | ⟨y, s1, h1, h2⟩
        · exact ev_code m a s c p h
        · rcases val_bind_err h2 with h | ⟨z, s2, h3, h4⟩
          · exact ev_code m b _ c p h
          · exact two1_code h4
  | .tern q d a b, s, c, p, h => by
    rw [ev] at h
    rcases val_bind_err h with h | ⟨y, s1, h1, h2⟩
    · exact ev_code m d s c p h
    · split at h2
      · exact ev_code m b _ c p h2
      · exact ev_code m a _ c p h2
  | .asg op x q1 q2 e, s, c, p, h => by
    rw [ev] at h
    split at h
    · rcases val_bind_err h with h | ⟨y, s1, h1, h2⟩
      · exact ev_code m e s c p h
      · simp at h2
    · rcases val_bind_err h with h | ⟨y, s1, h1, h2⟩
      · exact num1_code h
      · rcases val_bind_err h2 with h | ⟨z, s2, h3, h4⟩
        · exact ev_code m e _ c p h
        · rcases val_bind_err h4 with h | ⟨u, s3, h5, h6⟩
          · exact two1_code h
          · simp at h6

/-- What an evaluation over the variables at g leaves. -/
def EvPost (E : Nat → Addr) (g bv : Nat) (m : Vs) (W : World) (v : Val) (e : Ending) (w' : World) : Prop :=
  match v with
  | .ok r set => e = .returned (.tuple #[.int .i64 r, .nilIface]) ∧ VarsIn w' g bv (over set m) ∧ W.grownBy w' (some bv)
  | .err c p => ∃ u, e = .returned (.tuple #[.int .i64 0, u]) ∧ ErrV E w' u c p 1 ∧ Below W.heap.size W w'
theorem evPost_of {E : Nat → Addr} {g bv : Nat} {m : Vs} {W : World} {ex : Ex} {t : Tok} {e : Ending} {w' : World} (hv : VarsIn W g bv m) (h : EvalPost E (.pointer (some ⟨g, 0, none⟩)) m W (.ok ex t) e w') : EvPost E g bv m W (ev (mach m) ex []) e w' := by
  cases hx : ev (mach m) ex [] with
  | ok r set => exact h.vars hv hx
  | err c p => exact h.bad hx
theorem eval_b (E : Nat → Addr) (b : Bs) (A : Option Addr) (c : Nat) {ex : Ex} {t : Tok} (hp : parsed b = .ok ex t) (g bv : Nat) (m : Vs) (W : World) (hE : Env E W) (hr : Rb W A b) (hc : b.length ≤ c) (hv : VarsIn W g bv m) (hm : m.length ≤ 500000) :
    Calls Tryz.prog 13 #[.slice A b.length c, .pointer (some ⟨g, 0, none⟩)] W (EvPost E g bv m W (ev (mach m) ex [])) :=
  (eval_calls E b A c _ m W hE hr hc hv.at_ hm).mono fun e w' h => by
    rw [hp] at h
    exact evPost_of hv h
theorem eval_txt (E : Nat → Addr) (T : Bs) (z : ByteArray) (hz : z = mk T) (hl : T.length ≤ 1000000000) {ex : Ex} {t : Tok} (hp : parsed T = .ok ex t) (W : World) (q : Nat) (hq : q = W.heap.size) (n : Nat) (hn : n = z.size)
    (g bv : Nat) (m : Vs) (hE : Env E W) (hv : VarsIn W g bv m) (hm : m.length ≤ 500000) :
    Calls Tryz.prog 13 #[.slice (some ⟨q, 0, none⟩) n (grownCap W n 0 5), .pointer (some ⟨g, 0, none⟩)] (Lib.bytesWorld W 5 z) (EvPost E g bv m W (ev (mach m) ex [])) := by
  subst hz hq hn
  have hB1 : Below W.heap.size W (Lib.bytesWorld W 5 (mk T)) := bytes_below (Below.refl _ _) (Nat.le_refl _) _ _
  have hv1 : VarsIn (Lib.bytesWorld W 5 (mk T)) g bv m := hv.below hB1
  refine (eval_at E T _ _ _ (mk_size T) (.pointer (some ⟨g, 0, none⟩)) m _ (hE.below hB1) (rb_str T W hl) (by rw [mk_size]; exact grownCap_ge _ _ _ _) hv1.at_ hm).mono ?_
  rintro e w' h
  rw [hp] at h
  have h := evPost_of hv1 h
  cases hx : ev (mach m) ex [] with
  | ok r set =>
    rw [hx] at h
    obtain ⟨he, h2, h3⟩ := h
    exact ⟨he, h2, (grown_of_below hB1 (some bv)).andThen h3 (fun j hj => .inr hj)⟩
  | err c p =>
    rw [hx] at h
    obtain ⟨u, he, h2, h3⟩ := h
    exact ⟨u, he, h2, below_then hB1 hB1.size h3⟩
theorem RowL.below {w W : World} {A : Option Addr} {l : Vs} (h : RowL w A l) (hb : Below w.heap.size w W) : RowL W A l := fun i x hx => by
  obtain ⟨ad, hA, hq, h1, h2⟩ := h i x hx
  have h3 := OneL.below ⟨h1, h2⟩ hq hb
  exact ⟨ad, hA, Nat.lt_of_lt_of_le hq hb.size, h3.1, h3.2⟩
theorem VarsIn.grown {W W' : World} {g bv bv' : Nat} {m : Vs} (h : VarsIn W g bv m) (hg : W.grownBy W' (some bv')) (h1 : g ≠ bv') (h2 : bv ≠ bv') : VarsIn W' g bv m :=
  h.keep (hg.block g (blk_lt h.blk) (by simpa using h1)) (hg.block bv h.map.lt (by simpa using h2))
end Go.Proofs.YtjllmamblkejjaaGreatDoor
end

/- The laws' sets: where it answers false, the text has no assignment. Conditions: a text of at most 2^60 bytes. -/
section
set_option linter.unusedVariables false
set_option linter.unusedSimpArgs false
namespace Go.Proofs.YtjllmamblkejjaaGreatDoor
open Go.RowKit Go.Proofs.YtjllmamblkejjaaGreatDoorW.PrintWords Go.Proofs.YtjllmamblkejjaaGreatDoorW.PrintLast Go.Proofs.YtjllmamblkejjaaGreatDoorW.PrintMore
open PQA Sp

theorem rd_get (b : Bs) (j : Nat) (h : j < b.length) : ∃ c, b[j]? = some c ∧ rd (ints b) (j : Int) = (c.toNat : Int) := by
  refine ⟨b[j], List.getElem?_eq_getElem h, ?_⟩
  have e : b = b.take j ++ b[j] :: b.drop (j + 1) := by rw [← List.drop_eq_getElem_cons h, List.take_append_drop]
  have hl : (b.take j).length = j := by rw [List.length_take]; omega
  have := rd_at (b.take j) (b.drop (j + 1)) b[j]
  rw [← e, hl] at this
  exact this
theorem is_byte (c : UInt8) (n : UInt8) (m : Int) (hm : m = (n.toNat : Int)) : ((c.toNat : Int) = m) ↔ c = n := by
  subst hm
  rw [← UInt8.toNat_inj]
  omega
theorem sets_j (b : Bs) (hb : b.length ≤ 1152921504606846976) (i : Nat) (hi : i < b.length) (c : UInt8) (hc : b[i]? = some c) (x : Bool) (k : Nat) :
    PQG.pidginlaw4_sets.j1 (k + 1) (ints b) (i : Int) (c.toNat : Int) (ints b) (b.length : Int) (i : Int) x = some true ∨
    (x = false ∧ PQG.pidginlaw4_sets.j1 (k + 1) (ints b) (i : Int) (c.toNat : Int) (ints b) (b.length : Int) (i : Int) x = PQG.pidginlaw4_sets.l0 k (ints b) (ints b) (b.length : Int) ((i + 1 : Nat) : Int) ∧
      ¬ (b[i]? = some 61 ∧ 1 < i ∧ b[i - 1]? = b[i - 2]? ∧ (b[i - 1]? = some 60 ∨ b[i - 1]? = some 62))) := by
  rw [PQG.pidginlaw4_sets.j1]
  cases x
  · rw [if_neg (by decide)]
    have hw : wrap64 ((i : Int) + 1) = ((i + 1 : Nat) : Int) := by unfold wrap64; omega
    rw [hw]
    by_cases h61 : c = 61
    · rw [if_pos ((is_byte c 61 61 rfl).2 h61)]
      by_cases h1 : 1 < i
      · have w1 : wrap64 ((i : Int) - 1) = ((i - 1 : Nat) : Int) := by unfold wrap64; omega
        have w2 : wrap64 ((i : Int) - 2) = ((i - 2 : Nat) : Int) := by unfold wrap64; omega
        obtain ⟨c1, hc1, hr1⟩ := rd_get b (i - 1) (by omega)
        obtain ⟨c2, hc2, hr2⟩ := rd_get b (i - 2) (by omega)
        rw [if_pos (by omega), w1, w2, hr1, hr2, ints_length, if_pos (by omega), if_pos (by omega), if_pos (by omega), if_pos (by omega)]
        by_cases he : c1 = c2
        · rw [if_pos (by rw [he])]
          by_cases h60 : c1 = 60
          · rw [if_pos ((is_byte c1 60 60 rfl).2 h60)]; exact .inl rfl
          · rw [if_neg (fun h => h60 ((is_byte c1 60 60 rfl).1 h))]
            by_cases h62 : c1 = 62
            · rw [if_pos ((is_byte c1 62 62 rfl).2 h62)]; exact .inl rfl
            · rw [if_neg (fun h => h62 ((is_byte c1 62 62 rfl).1 h))]
              refine .inr ⟨rfl, rfl, ?_⟩
              rintro ⟨_, _, _, h | h⟩ <;> rw [hc1] at h <;> simp at h
              · exact h60 h
              · exact h62 h
        · rw [if_neg (fun h => he (UInt8.toNat_inj.1 (by omega)))]
          refine .inr ⟨rfl, rfl, ?_⟩
          rintro ⟨_, _, h, _⟩
          rw [hc1, hc2] at h
          exact he (Option.some.inj h)
      · rw [if_neg (by omega)]
        exact .inr ⟨rfl, rfl, fun h => h1 h.2.1⟩
    · rw [if_neg (fun h => h61 ((is_byte c 61 61 rfl).1 h))]
      refine .inr ⟨rfl, rfl, fun h => h61 ?_⟩
      have := h.1
      rw [hc] at this
      exact Option.some.inj this
  · rw [if_pos rfl]; exact .inl rfl
/-- What stands behind, as the loop looks. -/
def sAfter (b : Bs) (i : Nat) : Bool := !(b[i + 1]? == some 61)
theorem sets_after (b : Bs) (hb : b.length ≤ 1152921504606846976) (i : Nat) (hi : i < b.length) (F : Bool → Option Bool) :
    (if (wrap64 ((i : Int) + 1)) = ((ints b).length : Int) then F true else (if 0 ≤ (wrap64 ((i : Int) + 1)) then (if (wrap64 ((i : Int) + 1)) < ((ints b).length : Int) then F ((rd (ints b) (wrap64 ((i : Int) + 1))) != 61) else none) else none)) = F (sAfter b i) := by
  have hw : wrap64 ((i : Int) + 1) = ((i + 1 : Nat) : Int) := by unfold wrap64; omega
  rw [hw, ints_length]
  by_cases h : i + 1 = b.length
  · rw [if_pos (by omega)]
    have : b[i + 1]? = none := by rw [List.getElem?_eq_none_iff]; omega
    unfold sAfter; rw [this]; rfl
  · obtain ⟨c, hc, hr⟩ := rd_get b (i + 1) (by omega)
    rw [if_neg (by omega), if_pos (by omega), if_pos (by omega), hr]
    unfold sAfter; rw [hc]
    congr 1
    rw [bne]
    congr 1
    rw [Bool.eq_iff_iff, beq_iff_eq, beq_iff_eq, is_byte c 61 61 rfl]
    exact ⟨fun h => by rw [h], fun h => Option.some.inj h⟩
theorem sets_run (b : Bs) (hb : b.length ≤ 1152921504606846976) : ∀ (n i k : Nat), i ≤ b.length → b.length - i ≤ n → 2 * n + 2 ≤ k →
    ∃ r, PQG.pidginlaw4_sets.l0 k (ints b) (ints b) (b.length : Int) (i : Int) = some r ∧ (r = false → ∀ j, i ≤ j → ¬ SetsAt b j) := by
  intro n
  induction n with
  | zero =>
    intro i k h1 h2 h3
    obtain ⟨k, rfl⟩ : ∃ z, k = z + 1 := ⟨k - 1, by omega⟩
    refine ⟨false, ?_, fun _ j hj h => ?_⟩
    · rw [PQG.pidginlaw4_sets.l0, if_neg (by omega)]
    · have := (List.getElem?_eq_some_iff.1 h.1).1
      omega
  | succ n ih =>
    intro i k h1 h2 h3
    by_cases hi : i < b.length
    · obtain ⟨k, rfl⟩ : ∃ z, k = z + 2 := ⟨k - 2, by omega⟩
      obtain ⟨c, hc, hr⟩ := rd_get b i hi
      -- the round's answer by the flag
      have go : ∀ x : Bool, (x = false → ¬ (b[i]? = some 61 ∧ (i = 0 ∨ (b[i - 1]? ≠ some 61 ∧ b[i - 1]? ≠ some 33 ∧ b[i - 1]? ≠ some 60 ∧ b[i - 1]? ≠ some 62)) ∧ b[i + 1]? ≠ some 61)) →
          PQG.pidginlaw4_sets.l0 (k + 2) (ints b) (ints b) (b.length : Int) (i : Int) = PQG.pidginlaw4_sets.j1 (k + 1) (ints b) (i : Int) (c.toNat : Int) (ints b) (b.length : Int) (i : Int) x →
          ∃ r, PQG.pidginlaw4_sets.l0 (k + 2) (ints b) (ints b) (b.length : Int) (i : Int) = some r ∧ (r = false → ∀ j, i ≤ j → ¬ SetsAt b j) := by
        intro x hx he
        rw [he]
        rcases sets_j b hb i hi c hc x k with h | ⟨hx0, h, hno⟩
        · exact ⟨true, h, fun h => by cases h⟩
        · rw [h]
          obtain ⟨r, hr1, hr2⟩ := ih (i + 1) k (by omega) (by omega) (by omega)
          refine ⟨r, hr1, fun h0 j hj hs => ?_⟩
          rcases Nat.eq_or_lt_of_le hj with rfl | hj
          · rcases hs.2 with h | h
            · exact hx hx0 ⟨hs.1, h⟩
            · exact hno ⟨hs.1, h⟩
          · exact hr2 h0 j hj hs
      generalize hz : PQG.pidginlaw4_sets.l0 (k + 2) (ints b) (ints b) (b.length : Int) (i : Int) = z at go ⊢
      have hl0 : z = PQG.pidginlaw4_sets.l0 (k + 1 + 1) (ints b) (ints b) (b.length : Int) (i : Int) := hz.symm
      have hA := sets_after b hb i hi (fun x => PQG.pidginlaw4_sets.j1 (k + 1) (ints b) (i : Int) (c.toNat : Int) (ints b) (b.length : Int) (i : Int) x)
      rw [PQG.pidginlaw4_sets.l0, hr, if_pos (by omega), if_pos (by omega), if_pos (by rw [ints_length]; omega)] at hl0
      by_cases h61 : c = 61
      · rw [if_pos ((is_byte c 61 61 rfl).2 h61)] at hl0
        by_cases h0 : i = 0
        · rw [if_pos (by omega)] at hl0
          refine go (sAfter b i) (fun hx h => ?_) (hl0.trans hA)
          · have := h.2.2
            unfold sAfter at hx
            simp at hx
            exact this hx
        · have w1 : wrap64 ((i : Int) - 1) = ((i - 1 : Nat) : Int) := by unfold wrap64; omega
          obtain ⟨c1, hc1, hr1⟩ := rd_get b (i - 1) (by omega)
          rw [if_neg (by omega), w1, hr1, if_pos (by omega), if_pos (by rw [ints_length]; omega)] at hl0
          by_cases q1 : c1 = 61
          · rw [if_pos ((is_byte c1 61 61 rfl).2 q1)] at hl0
            refine go false (fun _ h => ?_) hl0
            rcases h.2.1 with h | h
            · exact h0 h
            · exact h.1 (by rw [hc1, q1])
          rw [if_neg (fun h => q1 ((is_byte c1 61 61 rfl).1 h))] at hl0
          by_cases q2 : c1 = 33
          · rw [if_pos ((is_byte c1 33 33 rfl).2 q2)] at hl0
            refine go false (fun _ h => ?_) hl0
            rcases h.2.1 with h | h
            · exact h0 h
            · exact h.2.1 (by rw [hc1, q2])
          rw [if_neg (fun h => q2 ((is_byte c1 33 33 rfl).1 h))] at hl0
          by_cases q3 : c1 = 60
          · rw [if_pos ((is_byte c1 60 60 rfl).2 q3)] at hl0
            refine go false (fun _ h => ?_) hl0
            rcases h.2.1 with h | h
            · exact h0 h
            · exact h.2.2.1 (by rw [hc1, q3])
          rw [if_neg (fun h => q3 ((is_byte c1 60 60 rfl).1 h))] at hl0
          by_cases q4 : c1 = 62
          · rw [if_pos ((is_byte c1 62 62 rfl).2 q4)] at hl0
            refine go false (fun _ h => ?_) hl0
            rcases h.2.1 with h | h
            · exact h0 h
            · exact h.2.2.2 (by rw [hc1, q4])
          rw [if_neg (fun h => q4 ((is_byte c1 62 62 rfl).1 h))] at hl0
          refine go (sAfter b i) (fun hx h => ?_) (hl0.trans hA)
          · have := h.2.2
            unfold sAfter at hx
            simp at hx
            exact this hx
      · rw [if_neg (fun h => h61 ((is_byte c 61 61 rfl).1 h))] at hl0
        refine go false (fun _ h => h61 ?_) hl0
        have := h.1
        rw [hc] at this
        exact Option.some.inj this
    · obtain ⟨k, rfl⟩ : ∃ z, k = z + 1 := ⟨k - 1, by omega⟩
      refine ⟨false, ?_, fun _ j hj h => ?_⟩
      · rw [PQG.pidginlaw4_sets.l0, if_neg (by omega)]
      · have := (List.getElem?_eq_some_iff.1 h.1).1
        omega
theorem sets_calls (b : Bs) (A : Option Addr) (c : Nat) (w : World) (hr : Rb w A b) (hc : b.length ≤ c) (hb : b.length ≤ 1152921504606846976) :
    Calls Tryz.prog 15 #[.slice A b.length c] w fun e w' => ∃ r : Bool, e = .returned (.bool r) ∧ (r = false → NoSets b) ∧ Drawn0 w w' := by
  obtain ⟨r, h1, h2⟩ := sets_run b hb b.length 0 (2 * b.length + 2) (by omega) (by omega) (by omega)
  have hk : PQG.pidginlaw4_sets.f (2 * b.length + 2) (ints b) = some r := by
    unfold PQG.pidginlaw4_sets.f
    rw [ints_length]; exact h1
  have := PQG.pidginlaw4_sets.calls _ A c (ints b) r w (by rw [ints_length]; exact hr) (by rw [ints_length]; exact hc) hk
  rw [ints_length] at this
  exact this.mono fun e w' ⟨he, hd⟩ => ⟨r, he, fun h i => h2 h i (Nat.zero_le _), hd⟩
end Go.Proofs.YtjllmamblkejjaaGreatDoor
end

/- The document's decimal text is the machine's. Conditions: a number of 64 bits. -/
section
set_option linter.unusedVariables false
set_option linter.unusedSimpArgs false
namespace Go.Proofs.YtjllmamblkejjaaGreatDoor
open Go.RowKit Go.Proofs.YtjllmamblkejjaaGreatDoorW.PrintWords Go.Proofs.YtjllmamblkejjaaGreatDoorW.PrintLast Go.Proofs.YtjllmamblkejjaaGreatDoorW.PrintMore
open PQA Sp

abbrev digs10 : ByteArray := ⟨#[48, 49, 50, 51, 52, 53, 54, 55, 56, 57, 97, 98, 99, 100, 101, 102]⟩
theorem dig_cut (m : Nat) (h : m < 10) : digs10.extract m (m + 1) = mk [48 + UInt8.ofNat m] := by
  match m, h with
  | 0, _ | 1, _ | 2, _ | 3, _ | 4, _ | 5, _ | 6, _ | 7, _ | 8, _ | 9, _ => rfl
theorem wrapU (x : Int) (h0 : 0 ≤ x) (h1 : x ≤ 18446744073709551615) : IntKind.u64.wrap x = x := by
  simp [IntKind.wrap, IntKind.signed, IntKind.bits]
  omega
theorem tmod10 (n : Nat) : Int.tmod (n : Int) 10 = ((n % 10 : Nat) : Int) := by
  rw [Int.tmod_eq_emod_of_nonneg (by omega)]; omega
theorem tdiv10 (n : Nat) : Int.tdiv (n : Int) 10 = ((n / 10 : Nat) : Int) := by
  rw [Int.tdiv_eq_ediv_of_nonneg (by omega)]; omega
theorem mk_cat (a b : Bs) : mk a ++ mk b = mk (a ++ b) := by
  refine ByteArray.ext ?_
  show (mk a ++ mk b).data = _
  rw [ByteArray.data_append]
  simp [mk]
theorem ref_loop : ∀ (k n : Nat) (d : Bs), n < 10 ^ k → n ≤ 18446744073709551615 → d.length + k ≤ 1000 →
    PQT.pidginref2_Base.l0 (k + 1) (n : Int) 10 digs10 (mk d) = some (mk (if n = 0 then d else decN n ++ d)) := by
  intro k
  induction k with
  | zero =>
    intro n d hn _ _
    obtain rfl : n = 0 := by simpa using hn
    rw [PQT.pidginref2_Base.l0, if_neg (by omega), if_pos rfl]
  | succ k ih =>
    intro n d hn hm hd
    rw [PQT.pidginref2_Base.l0]
    by_cases h0 : n = 0
    · subst h0
      rw [if_neg (by omega), if_pos rfl]
    · have w10 : IntKind.u64.wrap 10 = 10 := wrapU 10 (by omega) (by omega)
      have w1 : IntKind.u64.wrap (((n % 10 : Nat) : Int) + 1) = ((n % 10 + 1 : Nat) : Int) := by rw [wrapU _ (by omega) (by omega)]; omega
      have w2 : IntKind.u64.wrap ((n / 10 : Nat) : Int) = ((n / 10 : Nat) : Int) := wrapU _ (by omega) (by omega)
      have hs : digs10.size = 16 := rfl
      have hl : n % 10 < 10 := Nat.mod_lt _ (by omega)
      rw [if_pos (by omega), w10, tmod10, tdiv10, w1, w2, hs, if_neg (by omega), if_pos (by omega), if_pos (by omega), if_pos (by omega), Int.toNat_natCast, Int.toNat_natCast, dig_cut _ hl]
      have hz : (mk [48 + UInt8.ofNat (n % 10)]).size + (mk d).size ≤ 9223372036854775807 := by simp [mk, ByteArray.size]; omega
      rw [if_pos hz, mk_cat, ih (n / 10) _ (by rw [Nat.pow_succ] at hn; omega) (by omega) (by simp; omega), if_neg h0]
      congr 2
      by_cases h9 : n < 10
      · rw [if_pos (by omega), decN, if_pos h9, Nat.mod_eq_of_lt h9]
      · rw [if_neg (by omega)]
        conv => rhs; rw [decN, if_neg h9]
        simp
theorem ref_base (n : Nat) (hn : n ≤ 18446744073709551615) : PQT.pidginref2_Base.f 30 (n : Int) 10 false = some (mk (decN n)) := by
  have w10 : IntKind.u64.wrap 10 = 10 := wrapU 10 (by omega) (by omega)
  have w1 : IntKind.u64.wrap (((n % 10 : Nat) : Int) + 1) = ((n % 10 + 1 : Nat) : Int) := by rw [wrapU _ (by omega) (by omega)]; omega
  have w2 : IntKind.u64.wrap ((n / 10 : Nat) : Int) = ((n / 10 : Nat) : Int) := wrapU _ (by omega) (by omega)
  have hs : digs10.size = 16 := rfl
  have hl : n % 10 < 10 := Nat.mod_lt _ (by omega)
  unfold PQT.pidginref2_Base.f
  rw [if_neg (by omega), PQT.pidginref2_Base.j0, if_neg (by decide), if_neg (by decide), PQT.pidginref2_Base.j1, w10, tmod10, tdiv10, w1, w2]
  have hs' : (ByteArray.size ⟨#[48, 49, 50, 51, 52, 53, 54, 55, 56, 57, 97, 98, 99, 100, 101, 102]⟩) = 16 := rfl
  rw [hs', if_neg (by omega), if_pos (by omega), if_pos (by omega), if_pos (by omega), Int.toNat_natCast, Int.toNat_natCast, dig_cut _ hl, ref_loop 27 (n / 10) _ (by omega) (by omega) (by simp)]
  congr 2
  by_cases h9 : n < 10
  · rw [if_pos (by omega), decN, if_pos h9, Nat.mod_eq_of_lt h9]
  · rw [if_neg (by omega)]
    conv => rhs; rw [decN, if_neg h9]
theorem ref_text_eq (x : Int) (h1 : -9223372036854775808 ≤ x) (h2 : x ≤ 9223372036854775807) : PQT.pidginref2_Text.f 30 x = some (mk (text x)) := by
  unfold PQT.pidginref2_Text.f
  by_cases h0 : x < 0
  · have e1 : wrap64 (x + 1) = x + 1 := by unfold wrap64; omega
    have e2 : wrap64 (-(x + 1)) = -(x + 1) := by unfold wrap64; omega
    have e3 : IntKind.u64.wrap (-(x + 1)) = -(x + 1) := wrapU _ (by omega) (by omega)
    have e4 : IntKind.u64.wrap (-(x + 1) + 1) = ((x.natAbs : Nat) : Int) := by rw [wrapU _ (by omega) (by omega)]; omega
    rw [if_pos h0, e1, e2, e3, e4, ref_base _ (by omega)]
    have hl := decN_len 19 x.natAbs (by omega)
    show (if 1 + (mk (decN x.natAbs)).size ≤ 9223372036854775807 then some ((⟨#[45]⟩ : ByteArray) ++ mk (decN x.natAbs)) else none) = _
    have hz : 1 + (mk (decN x.natAbs)).size ≤ 9223372036854775807 := by simp [mk, ByteArray.size]; omega
    rw [if_pos hz]
    have : text x = [45] ++ decN x.natAbs := by unfold text; rw [if_pos h0]; rfl
    rw [this, ← mk_cat]
    rfl
  · have e4 : IntKind.u64.wrap x = ((x.natAbs : Nat) : Int) := by rw [wrapU _ (by omega) (by omega)]; omega
    rw [if_neg h0, e4, ref_base _ (by omega)]
    have : text x = decN x.natAbs := by unfold text; rw [if_neg h0]
    rw [this]
    rfl
theorem ref_text_calls (x : Int) (h1 : -9223372036854775808 ≤ x) (h2 : x ≤ 9223372036854775807) (w : World) :
    Calls Tryz.prog 20 #[.int .i64 x] w fun e w' => e = .returned (.string (mk (text x))) ∧ Drawn0 w w' :=
  PQT.pidginref2_Text.calls 30 x _ w (ref_text_eq x h1 h2)
end Go.Proofs.YtjllmamblkejjaaGreatDoor
end

/- ArithSets answers true. Conditions: a name, names and values of at most 2^47 bytes. -/
section
set_option linter.unusedVariables false
set_option linter.unusedSimpArgs false
namespace Go.Proofs.YtjllmamblkejjaaGreatDoor
open Go.RowKit Go.Proofs.YtjllmamblkejjaaGreatDoorW.PrintWords Go.Proofs.YtjllmamblkejjaaGreatDoorW.PrintLast Go.Proofs.YtjllmamblkejjaaGreatDoorW.PrintMore
open PQA Sp Go.WideShapes

theorem fault_code (a b c : Int) (W : World) : (Instr.field 47 (.agg #[.int .i64 a, .int .i64 b, .int .i64 c]) 0).run Tryz.prog W = .ok (.int .i64 a) W := by kernel_rfl
set_option maxHeartbeats 4000000 in
set_option maxRecDepth 100000 in
theorem arithSets_calls (E : Nat → Addr) (x b : Bs) (Ab : Option Addr) (cb : Nat) (A : Option Addr) (c : Nat) (l : Vs) (w : World) (hE : Env E w) (hr : Rb w Ab b) (hc : b.length ≤ cb) (h : RowL w A l) (hs : ∀ p ∈ l, small p.1 ∧ small p.2) (hxl : x.length ≤ 140737488355328) :
    Calls Tryz.prog 4 #[.string (mk x), .slice Ab b.length cb, .slice A l.length c] w fun e w' => e = .returned (.bool true) ∧ Below w.heap.size w w' := by
  have hszx : (mk x).size = x.length := mk_size x
  have HE := Aside0.mk hE
  have HR := Aside0.mk hr
  have HC := Aside0.mk hc
  have HRL := Aside0.mk h
  have HSL := Aside0.mk hs
  have HXL := Aside0.mk hxl
  clear hE hr hc h hs
  have hfin : ∀ W, Below w.heap.size w W → Calls Tryz.prog 9 #[] W fun e w' => e = .returned (.bool true) ∧ Below w.heap.size w w' := fun W hB =>
    (awake_calls E W (HE.out.below hB)).mono fun e w' h => ⟨h.1, below_then hB hB.size h.2⟩
  have HF := Aside0.mk hfin
  clear hfin
  by_cases h1 : 100 < x.length
  · clear hxl
    go_enter Tryz.func4, Tryz.ntmps4
    go_wp2_with fail
    with_reducible refine (isName_calls x _ HXL.out).mono ?_
    rintro e w1 ⟨bb, rfl, hnm, hb⟩
    have HB := Aside0.mk hb
    clear hb hnm
    cases bb
    all_goals
      go_wp2_with fail
      with_reducible refine (HF.out _ HB.out).mono ?_
      rintro e w2 ⟨rfl, hb2⟩
      go_wp2_with fail
      go_ret
      exact ⟨rfl, hb2⟩
  by_cases h2 : 300 < b.length
  · have hxs : x.length ≤ 100 := by omega
    clear hxl h1
    go_enter Tryz.func4, Tryz.ntmps4
    go_wp2_with fail
    with_reducible refine (isName_calls x _ HXL.out).mono ?_
    rintro e w1 ⟨bb, rfl, hnm, hb⟩
    have HB := Aside0.mk hb
    clear hb hnm
    cases bb
    all_goals
      go_wp2_with fail
      with_reducible refine (HF.out _ HB.out).mono ?_
      rintro e w2 ⟨rfl, hb2⟩
      go_wp2_with fail
      go_ret
      exact ⟨rfl, hb2⟩
  have hxs : x.length ≤ 100 := by omega
  have hbs : b.length ≤ 300 := by omega
  clear hxl h1 h2
  have HXS := Aside0.mk hxs
  have HBS := Aside0.mk hbs
  obtain ⟨z0, hz0⟩ : ∃ z, z = mk ([40] ++ b ++ [41]) := ⟨_, rfl⟩
  obtain ⟨y1, hy1⟩ : ∃ z, z = mk (x ++ [32, 61, 32]) := ⟨_, rfl⟩
  obtain ⟨z1, hz1⟩ : ∃ z, z = mk (x ++ [32, 61, 32] ++ ([40] ++ b ++ [41])) := ⟨_, rfl⟩
  obtain ⟨q1, hq1⟩ : ∃ z, z = mk (x ++ [61]) := ⟨_, rfl⟩
  obtain ⟨q2, hq2⟩ : ∃ z, z = mk (x ++ [61] ++ x) := ⟨_, rfl⟩
  have c1 : mk x ++ ({ data := #[32, 61, 32] } : ByteArray) = y1 := by rw [hy1, ← mk_app]; rfl
  have c2 : y1 ++ z0 = z1 := by rw [hz1, ← mk_app, hy1, hz0]
  have c3 : mk x ++ ({ data := #[61] } : ByteArray) = q1 := by rw [hq1, ← mk_app]; rfl
  have c4 : q1 ++ mk x = q2 := by rw [hq2, ← mk_app, hq1]
  have s0 : z0.size = b.length + 2 := by rw [hz0, mk_size]; simp
  have s1 : y1.size = x.length + 3 := by rw [hy1, mk_size]; simp
  have s2 : z1.size = x.length + 3 + (b.length + 2) := by rw [hz1, mk_size]; simp; omega
  have s3 : q1.size = x.length + 1 := by rw [hq1, mk_size]; simp
  have s4 : q2.size = x.length + 1 + x.length := by rw [hq2, mk_size]; simp; omega
  have HZ0 := Aside0.mk hz0
  have HZ1 := Aside0.mk hz1
  have HQ2 := Aside0.mk hq2
  have HCV := Aside0.mk (fun W s => Lib.run_convert_string_bytes (P := Tryz.prog) W 9 22 5 s Tryz.underlying9 Tryz.underlying22 Tryz.underlying5)
  have hcv := HCV.out
  clear hy1 hz0 hz1 hq1 hq2
  go_enter Tryz.func4, Tryz.ntmps4
  go_wp2_with fail
  with_reducible refine (isName_calls x _ HXL.out).mono ?_
  rintro e w1 ⟨bb, rfl, hnm, hb⟩
  have HB := Aside0.mk hb
  have HNM := Aside0.mk hnm
  clear hb hnm
  cases bb
  · go_wp2_with fail
    with_reducible refine (HF.out _ HB.out).mono ?_
    rintro e w2 ⟨rfl, hb2⟩
    go_wp2_with fail
    go_ret
    exact ⟨rfl, hb2⟩
  have HX : Aside0 (isName x) := ⟨by have := HNM.out; simpa using this⟩
  clear HNM
  go_wp2_with fail
  with_reducible refine (sets_calls b Ab cb _ (Kd.C_below HR.out HB.out) HC.out (by omega)).mono ?_
  rintro e w2 ⟨sb, rfl, hns, hd2⟩
  have HNS := Aside0.mk hns
  have HB2 := Aside0.mk (below_then HB.out HB.out.size hd2.below)
  clear hns hd2
  cases sb
  rotate_left
  · go_wp2_with fail
    with_reducible refine (HF.out _ HB2.out).mono ?_
    rintro e w3 ⟨rfl, hb3⟩
    go_wp2_with fail
    go_ret
    exact ⟨rfl, hb3⟩
  have HNO := Aside0.mk (HNS.out rfl)
  clear HNS
  go_wp2_with fail
  with_reducible refine (parse_all E b Ab cb _ (HE.out.below HB2.out) (Kd.C_below HR.out HB2.out) HC.out).mono ?_
  rintro e w3 hp
  obtain ⟨r, hr⟩ : ∃ r, r = parsed b := ⟨_, rfl⟩
  rw [← hr] at hp
  cases r with
  | out => exact absurd hp id
  | err cd ps =>
    obtain ⟨v, rfl, hv, hb2⟩ := hp
    obtain ⟨s, p, rfl, _, _⟩ := hv
    have HB3 := Aside0.mk (below_then HB2.out HB2.out.size hb2)
    clear hb2 hcv
    go_wp2_with fail
    with_reducible refine (HF.out _ HB3.out).mono ?_
    rintro e w4 ⟨rfl, hb4⟩
    go_wp2_with fail
    go_ret
    exact ⟨rfl, hb4⟩
  | ok ex tt =>
    obtain ⟨q, s0', n1, s2', n3, n4, A1, n, c', rfl, _, _, _, hb2⟩ := hp
    have HP := Aside0.mk hr.symm
    have HPK := Aside0.mk (parsed_ok hr.symm).2
    have HNA := Aside0.mk (parse_no HNO.out (parsed_ok hr.symm).2)
    have HNU := Aside0.mk (wf_nums ex (parse_wf b _ ex tt (parsed_ok hr.symm).2))
    have HB3 := Aside0.mk (below_then HB2.out HB2.out.size hb2)
    clear hb2 hr
    go_wp2_with fail
    have HRL3 := Aside0.mk (RowL.below HRL.out HB3.out)
    with_reducible refine (laid_calls A c l _ HRL3.out HSL.out).mono ?_
    rintro e w4 ⟨g, bv, vm, rfl, hl⟩
    obtain ⟨Am, cm, rfl, hrm⟩ := rowV_own hl.row
    have HK := Aside0.mk hl
    have HRM := Aside0.mk hrm
    have HB4 := Aside0.mk (below_then HB3.out HB3.out.size hl.below)
    have hlen9 : (layV (l.take 40)).length ≤ 40 := by
      have h1 := lay_len (l.take 40) []
      have h2 : (l.take 40).length ≤ 40 := by rw [List.length_take]; omega
      unfold layV
      simp at h1 h2 ⊢
      omega
    have HM := Aside0.mk hlen9
    have HRI := Aside0.mk hl.vars.rising
    have HKV := Aside0.mk hl.vars
    clear hl hrm hlen9 HK HRL3
    generalize hM : layV (l.take 40) = M at *
    clear hM
    -- what the texts come to
    go_wp2_with fail
    with_reducible refine (copy_calls g bv M _ HKV.out).mono ?_
    rintro e w5 ⟨gw, bw, rfl, hv5, hgw, hbw, hb5⟩
    have HVW5 := Aside0.mk hv5
    have HBK5 := Aside0.mk hb5
    have HGW := Aside0.mk (And.intro hgw hbw)
    clear hv5 hgw hbw hb5
    go_wp2_with fail
    with_reducible refine (copy_calls g bv M _ (HKV.out.below HBK5.out)).mono ?_
    rintro e w6 ⟨gu, bu, rfl, hv6, hgu, hbu, hb6⟩
    have HVU6 := Aside0.mk hv6
    have HVW6 := Aside0.mk (HVW5.out.below hb6)
    have HGU := Aside0.mk (And.intro hgu hbu)
    have HBK6 := Aside0.mk (below_then HBK5.out HBK5.out.size hb6)
    clear hv6 hgu hbu hb6
    go_wp2_with fail
    have hB06 := below_then HB4.out HB4.out.size HBK6.out
    with_reducible refine (law_in_calls b Ab cb _ (Kd.C_below HR.out hB06) (by have := HBS.out; omega) z0 HZ0.out).mono ?_
    rintro e w7 ⟨rfl, rfl⟩
    have HB06 := Aside0.mk hB06
    clear hB06
    go_wp2_with fail
    -- name = (b)
    obtain ⟨t1, ht1, hg1⟩ := sets_one x b [32, 61, 32] [61] HX.out HPK.out sign_eq rfl ⟨_, _, rfl, rfl, rfl⟩ rfl
    have hL1 : (x ++ [32, 61, 32] ++ ([40] ++ b ++ [41]) : Bs).length ≤ 1024 := by have := HXS.out; have := HBS.out; simp; omega
    with_reducible refine (eval_txt E _ z1 HZ1.out (by omega) (parsed_of hg1 ht1 hL1) w6 _ rfl _ s2.symm gw bw M (HE.out.below HB06.out) HVW6.out (by have := HM.out; omega)).mono ?_
    rintro e w7 hp7
    clear ht1 hg1 hL1
    have HP7 := Aside0.mk hp7
    clear hp7
    cases hev : ev (mach M) ex [] with
    | err c d =>
      have hp7 := HP7.out
      rw [ev_asg_bad (mach M) x _ _ _ hev] at hp7
      obtain ⟨u7, rfl, he7, hb7⟩ := hp7
      obtain ⟨s7, p7, rfl, _, _⟩ := he7
      have HVW7 := Aside0.mk (HVW6.out.below hb7)
      have HVU7 := Aside0.mk (HVU6.out.below hb7)
      have HBK7 := Aside0.mk (below_then HBK6.out HBK6.out.size hb7)
      have HEV := Aside0.mk hev
      clear hb7 HP7 hev hcv
      go_wp2_with fail
      have hB07 := below_then HB4.out HB4.out.size HBK7.out
      have hc8 := eval_b E b Ab cb HP.out gu bu M _ (HE.out.below hB07) (Kd.C_below HR.out hB07) HC.out HVU7.out (by have := HM.out; omega)
      rw [HEV.out] at hc8
      with_reducible refine hc8.mono ?_
      rintro e w8 ⟨u8, rfl, he8, hb8⟩
      obtain ⟨s8, p8, rfl, _, _⟩ := he8
      have HVW8 := Aside0.mk (HVW7.out.below hb8)
      have HVU8 := Aside0.mk (HVU7.out.below hb8)
      have HBK8 := Aside0.mk (below_then HBK7.out HBK7.out.size hb8)
      clear hb8 hc8 hB07
      go_wp2_with fail
      with_reducible refine (list_row gu bu _ _ HVU8.out).mono ?_
      rintro e w9 ⟨A9, c9, rfl, hr9, hb9⟩
      have HR9 := Aside0.mk hr9
      have HVW9 := Aside0.mk (HVW8.out.below hb9)
      have HBK9 := Aside0.mk (below_then HBK8.out HBK8.out.size hb9)
      clear hr9 hb9
      go_wp2_with fail
      have hml : M.length ≤ 1000000000 := by have := HM.out; omega
      have hdt : decide (M = M) = true := decide_eq_true rfl
      with_reducible refine (same_calls A9 Am c9 cm _ _ _ HR9.out (HRM.out.below HBK9.out) hml).mono ?_
      rintro e w10 ⟨rfl, hd10⟩
      have HVW10 := Aside0.mk (HVW9.out.below hd10.below)
      have HBK10 := Aside0.mk (below_then HBK9.out HBK9.out.size hd10.below)
      clear hd10
      go_wp2_with fail
      with_reducible refine (list_row gw bw _ _ HVW10.out).mono ?_
      rintro e w11 ⟨A11, c11, rfl, hr11, hb11⟩
      have HR11 := Aside0.mk hr11
      have HBK11 := Aside0.mk (below_then HBK10.out HBK10.out.size hb11)
      clear hr11 hb11
      go_wp2_with fail
      with_reducible refine (same_calls A11 Am c11 cm _ _ _ HR11.out (HRM.out.below HBK11.out) hml).mono ?_
      rintro e w12 ⟨rfl, hd12⟩
      have HBK12 := Aside0.mk (below_then HB4.out HB4.out.size (below_then HBK11.out HBK11.out.size hd12.below))
      clear hd12
      go_wp2_with fail
      with_reducible refine (HF.out _ HBK12.out).mono ?_
      rintro e w13 ⟨rfl, hb13⟩
      go_wp2_with fail
      go_ret
      exact ⟨rfl, hb13⟩
    | ok y s =>
      have hev := ev_ok HNA.out hev
      have hp7 := HP7.out
      rw [ev_asg_eq (mach M) x _ _ _ HNA.out hev] at hp7
      obtain ⟨rfl, hv7, hg7⟩ := hp7
      have HIN := Aside0.mk (show -9223372036854775808 ≤ y ∧ y ≤ 9223372036854775807 from ev_in M ex HNU.out _ _ _ hev)
      have HVW7 := Aside0.mk (show VarsIn w7 gw bw (mset x (text y) M) from hv7)
      have hor := HGU.out
      have how := HGW.out
      have hltw := blk_lt HVW5.out.blk
      have hltb := HVW5.out.map.lt
      have hlt5 := HBK5.out.size
      have HVU7 := Aside0.mk (HVU6.out.grown hg7 (by omega) (by omega))
      have HBK7 := Aside0.mk (HBK6.out.grown hg7 HBK6.out.size (fun k hk => by cases hk; exact how.2))
      have HEV := Aside0.mk hev
      clear hv7 hg7 HP7 hev hor how hltw hltb hlt5
      go_wp2_with fail
      have hB07 := below_then HB4.out HB4.out.size HBK7.out
      have hc8 := eval_b E b Ab cb HP.out gu bu M _ (HE.out.below hB07) (Kd.C_below HR.out hB07) HC.out HVU7.out (by have := HM.out; omega)
      rw [HEV.out] at hc8
      with_reducible refine hc8.mono ?_
      rintro e w8 ⟨rfl, hv8, hg8⟩
      have HVU8 := Aside0.mk (show VarsIn w8 gu bu M from hv8)
      have hor := HGU.out
      have hltw := blk_lt HVW5.out.blk
      have hltb := HVW5.out.map.lt
      have hlt5 := HBK5.out.size
      have HVW8 := Aside0.mk (HVW7.out.grown hg8 (by omega) (by omega))
      have HBK8 := Aside0.mk (HBK7.out.grown hg8 HBK7.out.size (fun k hk => by cases hk; omega))
      clear hv8 hg8 hor hltw hltb hlt5 hc8 hB07
      go_wp2_with fail
      with_reducible refine (list_row gu bu _ _ HVU8.out).mono ?_
      rintro e w9 ⟨A9, c9, rfl, hr9, hb9⟩
      have HR9 := Aside0.mk hr9
      have HVW9 := Aside0.mk (HVW8.out.below hb9)
      have HBK9 := Aside0.mk (below_then HBK8.out HBK8.out.size hb9)
      clear hr9 hb9
      go_wp2_with fail
      have hml : M.length ≤ 1000000000 := by have := HM.out; omega
      have hdt : decide (M = M) = true := decide_eq_true rfl
      with_reducible refine (same_calls A9 Am c9 cm _ _ _ HR9.out (HRM.out.below HBK9.out) hml).mono ?_
      rintro e w10 ⟨rfl, hd10⟩
      have HVW10 := Aside0.mk (HVW9.out.below hd10.below)
      have HBK10 := Aside0.mk (below_then HBK9.out HBK9.out.size hd10.below)
      clear hd10
      go_wp2_with fail
      with_reducible refine (list_row gw bw _ _ HVW10.out).mono ?_
      rintro e w11 ⟨A11, c11, rfl, hr11, hb11⟩
      have HR11 := Aside0.mk hr11
      have HBK11 := Aside0.mk (below_then HBK10.out HBK10.out.size hb11)
      clear hr11 hb11
      go_wp2_with fail
      with_reducible refine (ref_text_calls y HIN.out.1 HIN.out.2 _).mono ?_
      rintro e w12 ⟨rfl, hd12⟩
      have HR12 := Aside0.mk (HR11.out.below hd12.below)
      have HBK12 := Aside0.mk (below_then HBK11.out HBK11.out.size hd12.below)
      clear hd12
      go_wp2_with fail
      with_reducible refine (refSet_calls Am cm M x (text y) _ (HRM.out.below HBK12.out) (by have := HM.out; omega)).mono ?_
      rintro e w13 ⟨vv, rfl, ho13, hb13⟩
      rw [rset_eq HRI.out] at ho13
      obtain ⟨A13, c13, rfl, hr13⟩ := rowV_own ho13
      have HR13 := Aside0.mk hr13
      have HR11b := Aside0.mk (HR12.out.below hb13)
      have HBK13 := Aside0.mk (below_then HBK12.out HBK12.out.size hb13)
      clear ho13 hr13 hb13
      go_wp2_with fail
      have hml13 : (mset x (text y) M).length ≤ 1000000000 := by have := HM.out; have := len_mset x (text y) M; omega
      have hdt13 : decide (mset x (text y) M = mset x (text y) M) = true := decide_eq_true rfl
      with_reducible refine (same_calls A11 A13 c11 c13 _ _ _ HR11b.out HR13.out hml13).mono ?_
      rintro e w14 ⟨rfl, hd14⟩
      have HBK14 := Aside0.mk (below_then HBK13.out HBK13.out.size hd14.below)
      clear hd14
      go_wp2_with fail
      have HBA : Aside0 (Below w4.heap.size w4 (w14.alloc (.cells #[.string ⟨#[43]⟩, .string ⟨#[45]⟩, .string ⟨#[42]⟩, .string ⟨#[47]⟩, .string ⟨#[37]⟩, .string ⟨#[38]⟩, .string ⟨#[124]⟩, .string ⟨#[94]⟩, .string ⟨#[60, 60]⟩, .string ⟨#[62, 62]⟩] 9)) ∧
          (w14.alloc (.cells #[.string ⟨#[43]⟩, .string ⟨#[45]⟩, .string ⟨#[42]⟩, .string ⟨#[47]⟩, .string ⟨#[37]⟩, .string ⟨#[38]⟩, .string ⟨#[124]⟩, .string ⟨#[94]⟩, .string ⟨#[60, 60]⟩, .string ⟨#[62, 62]⟩] 9)).heap[w14.heap.size]? = some (.cells ((opsL.map fun o => Value.string (mk o)).toArray) 9 (0, 0)) ∧ w4.heap.size ≤ w14.heap.size) :=
        ⟨below_alloc HBK14.out _, heap_new rfl _, HBK14.out.size⟩
      have HXA := Aside0.mk s0
      clear HR13 HR11b HR11 HR12 HR9 HVW10 HVW9 HVW8 HVU8 HBK13 HBK12 HBK11 HBK10 HBK9 HBK8 HBK7 HVU7 HVW7 HBK6 HVU6 HVW6 HBK5 HVW5 HGU HGW hml13 hdt13 hdt hml HIN HB06 HB HB2 HB3
      go_loopg [115] 10 (fun gk v115 wr => ∃ i : Nat, v115 = .int .i64 (i : Int) ∧ i ≤ 10 ∧ gk = 10 - i ∧ Aside0 (Below w4.heap.size w4 wr ∧ wr.heap[w14.heap.size]? = some (.cells ((opsL.map fun o => Value.string (mk o)).toArray) 9 (0, 0)) ∧ w4.heap.size ≤ w14.heap.size))
      case atStart => exact ⟨0, rfl, by omega, rfl, HBA⟩
      case round =>
        obtain ⟨i, rfl, hi, hgk, HL⟩ := hrel
        clear HBA
        by_cases hin : i < 10
        · have hio : i < opsL.length := by show i < 10; exact hin
          have hcell : wr.cell? ⟨w14.heap.size, i, none⟩ = some (.string (mk opsL[i])) := by
            rw [cell_of_row wr w14.heap.size i _ _ _ HL.out.2.1]
            simp [hio]
          have hok := ops_ok opsL[i] (List.getElem_mem hio)
          generalize opsL[i] = o at hcell hok
          have HOK := Aside0.mk hok
          have hol := hok.len
          obtain ⟨a1, ha1⟩ : ∃ z, z = mk (x ++ o) := ⟨_, rfl⟩
          obtain ⟨a2, ha2⟩ : ∃ z, z = mk (x ++ o ++ [61]) := ⟨_, rfl⟩
          obtain ⟨a3, ha3⟩ : ∃ z, z = mk (x ++ o ++ [61] ++ ([40] ++ b ++ [41])) := ⟨_, rfl⟩
          obtain ⟨b1, hb1⟩ : ∃ z, z = mk (x ++ [61] ++ x ++ o) := ⟨_, rfl⟩
          obtain ⟨b2, hb2⟩ : ∃ z, z = mk (x ++ [61] ++ x ++ o ++ ([40] ++ b ++ [41])) := ⟨_, rfl⟩
          have d1 : mk x ++ mk o = a1 := by rw [ha1, ← mk_app]
          have d2 : a1 ++ ({ data := #[61] } : ByteArray) = a2 := by rw [ha2, ← mk_app, ha1]; rfl
          have d3 : a2 ++ z0 = a3 := by rw [ha3, ← mk_app, ha2, HZ0.out]
          have d4 : q2 ++ mk o = b1 := by rw [hb1, ← mk_app, HQ2.out]
          have d5 : b1 ++ z0 = b2 := by rw [hb2, ← mk_app, hb1, HZ0.out]
          have so : (mk o).size = o.length := mk_size o
          have sa1 : a1.size = x.length + o.length := by rw [ha1, mk_size]; simp
          have sa2 : a2.size = x.length + o.length + 1 := by rw [ha2, mk_size]; simp; omega
          have sa3 : a3.size = x.length + o.length + 1 + (b.length + 2) := by rw [ha3, mk_size]; simp; omega
          have sb1 : b1.size = x.length + 1 + x.length + o.length := by rw [hb1, mk_size]; simp; omega
          have sb2 : b2.size = x.length + 1 + x.length + o.length + (b.length + 2) := by rw [hb2, mk_size]; simp; omega
          have HA3 := Aside0.mk ha3
          have HB2' := Aside0.mk hb2
          obtain ⟨t1, ht1, hg1⟩ := sets_one x b (o ++ [61]) (o ++ [61]) HX.out HPK.out hok.one hok.ha1 hok.h1 (T := x ++ o ++ [61] ++ ([40] ++ b ++ [41])) (by simp)
          obtain ⟨t2, P1, P2, P3, ht2, hg2⟩ := sets_two x b o o HX.out HPK.out hok.two hok.ha2 hok.st hok.h2 (T := x ++ [61] ++ x ++ o ++ ([40] ++ b ++ [41])) rfl
          have HPA := Aside0.mk (parsed_of hg1 ht1 (by simp; omega))
          have HPB := Aside0.mk (parsed_of hg2 ht2 (by simp; omega))
          have hLA : (x ++ o ++ [61] ++ ([40] ++ b ++ [41]) : Bs).length ≤ 1000000000 := by simp; omega
          have hLB : (x ++ [61] ++ x ++ o ++ ([40] ++ b ++ [41]) : Bs).length ≤ 1000000000 := by simp; omega
          have HLA := Aside0.mk hLA
          have HLB := Aside0.mk hLB
          have HFO := Aside0.mk (ev_forms (mach M) x hok HNA.out 0 (0 + x.length) (x.length + (o ++ [61]).length + 1) 0 P1 P2 P3 (x.length + 1 + x.length + o.length + 1))
          clear hok ha1 ha2 ha3 hb1 hb2 ht1 hg1 ht2 hg2 hLA hLB hio
          go_wp2_with fail
          have hm5 : M.length ≤ 500000 := by have := HM.out; omega
          have hfd := fault_code
          with_reducible refine (copy_calls g bv M _ (HKV.out.below HL.out.1)).mono ?_
          rintro e v1 ⟨g1, bv1, rfl, hv1, hg1, hbv1, hb1⟩
          have HV1 := Aside0.mk hv1
          have HG1 := Aside0.mk (And.intro hg1 hbv1)
          have HB1 := Aside0.mk hb1
          clear hv1 hg1 hbv1 hb1
          go_wp2_with fail
          with_reducible refine (copy_calls g bv M _ (HKV.out.below (below_then HL.out.1 HL.out.1.size HB1.out))).mono ?_
          rintro e v2 ⟨g2, bv2, rfl, hv2, hg2, hbv2, hb2⟩
          have HV2 := Aside0.mk hv2
          have HV1b := Aside0.mk (HV1.out.below hb2)
          have HG2 := Aside0.mk (And.intro (And.intro hg2 hbv2) (And.intro (blk_lt HV1.out.blk) HV1.out.map.lt))
          have HBr2 := Aside0.mk (below_then HB1.out HB1.out.size hb2)
          clear hv2 hg2 hbv2 hb2
          go_wp2_with fail
          have hB02 := below_then HB4.out HB4.out.size (below_then HL.out.1 HL.out.1.size HBr2.out)
          with_reducible refine (law_in_calls b Ab cb _ (Kd.C_below HR.out hB02) (by omega) z0 HZ0.out).mono ?_
          rintro e v3 ⟨rfl, rfl⟩
          clear hB02
          go_wp2_with fail
          have hB02 := below_then HB4.out HB4.out.size (below_then HL.out.1 HL.out.1.size HBr2.out)
          with_reducible refine (eval_txt E _ a3 HA3.out HLA.out HPA.out v2 _ rfl _ sa3.symm g1 bv1 M (HE.out.below hB02) HV1b.out hm5).mono ?_
          rintro e v3 hp3
          clear hB02
          rcases HFO.out with ⟨z, hf1, hf2⟩ | ⟨cd, e1, e2, hf1, hf2⟩
          · rw [hf1] at hp3
            obtain ⟨rfl, hv3, hgr3⟩ := hp3
            have HO3 := Aside0.mk (show VarsIn v3 g1 bv1 (mset x (text z) M) from hv3)
            have HBr3 := Aside0.mk (HBr2.out.grown hgr3 HBr2.out.size (fun k hk => by cases hk; exact HG1.out.2))
            have HT3 := Aside0.mk (HV2.out.grown hgr3 (by have := HG2.out; omega) (by have := HG2.out; omega))
            have HF2 := Aside0.mk hf2
            clear hv3 hgr3 hf1 hf2 HFO
            go_wp2_with fail
            have hB03 := below_then HB4.out HB4.out.size (below_then HL.out.1 HL.out.1.size HBr3.out)
            with_reducible refine (law_in_calls b Ab cb _ (Kd.C_below HR.out hB03) (by omega) z0 HZ0.out).mono ?_
            rintro e v4 ⟨rfl, rfl⟩
            clear hB03
            go_wp2_with fail
            have hB03 := below_then HB4.out HB4.out.size (below_then HL.out.1 HL.out.1.size HBr3.out)
            have hc4 := eval_txt E _ b2 HB2'.out HLB.out HPB.out v3 _ rfl _ sb2.symm g2 bv2 M (HE.out.below hB03) HT3.out hm5
            rw [HF2.out] at hc4
            with_reducible refine hc4.mono ?_
            rintro e v4 ⟨rfl, hv4, hgr4⟩
            have HT4 := Aside0.mk (show VarsIn v4 g2 bv2 (mset x (text z) M) from hv4)
            have HBr4 := Aside0.mk (HBr3.out.grown hgr4 HBr3.out.size (fun k hk => by cases hk; have := HG2.out.1.2; have := HB1.out.size; omega))
            have HO4 := Aside0.mk (HO3.out.grown hgr4 (by have := HG2.out; omega) (by have := HG2.out; omega))
            clear hv4 hgr4 hB03 hc4 HF2
            go_wp2_with fail
            with_reducible refine (tell_nil _).mono ?_
            rintro e v5 ⟨rfl, hb5⟩
            have HT5 := Aside0.mk (HT4.out.below hb5)
            have HO5 := Aside0.mk (HO4.out.below hb5)
            have HBr5 := Aside0.mk (below_then HBr4.out HBr4.out.size hb5)
            clear hb5
            go_wp2_with fail
            with_reducible refine (tell_nil _).mono ?_
            rintro e v6 ⟨rfl, hb6⟩
            have HT6 := Aside0.mk (HT5.out.below hb6)
            have HO6 := Aside0.mk (HO5.out.below hb6)
            have HBr6 := Aside0.mk (below_then HBr5.out HBr5.out.size hb6)
            clear hb6
            go_wp2_with fail
            with_reducible refine (list_row g1 bv1 _ _ HO6.out).mono ?_
            rintro e v7 ⟨A7, c7, rfl, hr7, hb7⟩
            have HR7 := Aside0.mk hr7
            have HT7 := Aside0.mk (HT6.out.below hb7)
            have HBr7 := Aside0.mk (below_then HBr6.out HBr6.out.size hb7)
            clear hr7 hb7
            go_wp2_with fail
            with_reducible refine (list_row g2 bv2 _ _ HT7.out).mono ?_
            rintro e v8 ⟨A8, c8, rfl, hr8, hb8⟩
            have HR8 := Aside0.mk hr8
            have HR7b := Aside0.mk (HR7.out.below hb8)
            have HBr8 := Aside0.mk (below_then HBr7.out HBr7.out.size hb8)
            clear hr8 hb8
            go_wp2_with fail
            have hml8 : (mset x (text z) M).length ≤ 1000000000 := by have := HM.out; have := len_mset x (text z) M; omega
            have hdt8 : decide (mset x (text z) M = mset x (text z) M) = true := decide_eq_true rfl
            with_reducible refine (same_calls A7 A8 c7 c8 _ _ _ HR7b.out HR8.out hml8).mono ?_
            rintro e v9 ⟨rfl, hd9⟩
            have HBr9 := Aside0.mk (below_then HBr8.out HBr8.out.size hd9.below)
            clear hd9
            go_wp2_with fail
            go_roundg (10 - (i + 1))
            case measure => omega
            case rel => exact ⟨i + 1, by go_num, by omega, rfl, ⟨below_then HL.out.1 HL.out.1.size HBr9.out, (HBr9.out.block _ (blk_lt HL.out.2.1)).trans HL.out.2.1, HL.out.2.2⟩⟩
          · rw [hf1] at hp3
            have hcd : 1 ≤ cd ∧ cd ≤ 21 := ev_code M _ _ _ _ hf1
            have HCD := Aside0.mk hcd
            obtain ⟨u3, rfl, he3, hb3⟩ := hp3
            have HE3 := Aside0.mk he3
            obtain ⟨s3, p3, rfl, _, _⟩ := he3
            have HO3 := Aside0.mk (HV1b.out.below hb3)
            have HT3 := Aside0.mk (HV2.out.below hb3)
            have HBr3 := Aside0.mk (below_then HBr2.out HBr2.out.size hb3)
            have HF2 := Aside0.mk hf2
            clear hb3 hf1 hf2 HFO hcd
            go_wp2_with fail
            have hB03 := below_then HB4.out HB4.out.size (below_then HL.out.1 HL.out.1.size HBr3.out)
            with_reducible refine (law_in_calls b Ab cb _ (Kd.C_below HR.out hB03) (by omega) z0 HZ0.out).mono ?_
            rintro e v4 ⟨rfl, rfl⟩
            clear hB03
            go_wp2_with fail
            have hB03 := below_then HB4.out HB4.out.size (below_then HL.out.1 HL.out.1.size HBr3.out)
            have hc4 := eval_txt E _ b2 HB2'.out HLB.out HPB.out v3 _ rfl _ sb2.symm g2 bv2 M (HE.out.below hB03) HT3.out hm5
            rw [HF2.out] at hc4
            with_reducible refine hc4.mono ?_
            rintro e v4 ⟨u4, rfl, he4, hb4⟩
            have HE4 := Aside0.mk he4
            obtain ⟨s4, p4, rfl, _, _⟩ := he4
            have HE3b := Aside0.mk (HE3.out.below hb4)
            have HO4 := Aside0.mk (HO3.out.below hb4)
            have HT4 := Aside0.mk (HT3.out.below hb4)
            have HBr4 := Aside0.mk (below_then HBr3.out HBr3.out.size hb4)
            clear hb4 hB03 hc4 HF2
            go_wp2_with fail
            have hB04 := below_then HB4.out HB4.out.size (below_then HL.out.1 HL.out.1.size HBr4.out)
            with_reducible refine (tell_calls E _ (HE.out.below hB04) _ cd e1 1 HE3b.out HCD.out.1 HCD.out.2).mono ?_
            rintro e v5 ⟨rfl, hb5⟩
            have HE5 := Aside0.mk (HE4.out.below hb5)
            have HT5 := Aside0.mk (HT4.out.below hb5)
            have HO5 := Aside0.mk (HO4.out.below hb5)
            have HBr5 := Aside0.mk (below_then HBr4.out HBr4.out.size hb5)
            clear hb5 hB04
            go_wp2_with fail
            have hB05 := below_then HB4.out HB4.out.size (below_then HL.out.1 HL.out.1.size HBr5.out)
            with_reducible refine (tell_calls E _ (HE.out.below hB05) _ cd e2 1 HE5.out HCD.out.1 HCD.out.2).mono ?_
            rintro e v6 ⟨rfl, hb6⟩
            have HT6 := Aside0.mk (HT5.out.below hb6)
            have HO6 := Aside0.mk (HO5.out.below hb6)
            have HBr6 := Aside0.mk (below_then HBr5.out HBr5.out.size hb6)
            clear hb6 hB05
            go_wp2_with fail
            with_reducible refine (list_row g1 bv1 _ _ HO6.out).mono ?_
            rintro e v7 ⟨A7, c7, rfl, hr7, hb7⟩
            have HR7 := Aside0.mk hr7
            have HT7 := Aside0.mk (HT6.out.below hb7)
            have HBr7 := Aside0.mk (below_then HBr6.out HBr6.out.size hb7)
            clear hr7 hb7
            go_wp2_with fail
            with_reducible refine (list_row g2 bv2 _ _ HT7.out).mono ?_
            rintro e v8 ⟨A8, c8, rfl, hr8, hb8⟩
            have HR8 := Aside0.mk hr8
            have HR7b := Aside0.mk (HR7.out.below hb8)
            have HBr8 := Aside0.mk (below_then HBr7.out HBr7.out.size hb8)
            clear hr8 hb8
            go_wp2_with fail
            have hml8 : M.length ≤ 1000000000 := by have := HM.out; omega
            have hdt8 : decide (M = M) = true := decide_eq_true rfl
            with_reducible refine (same_calls A7 A8 c7 c8 _ _ _ HR7b.out HR8.out hml8).mono ?_
            rintro e v9 ⟨rfl, hd9⟩
            have HBr9 := Aside0.mk (below_then HBr8.out HBr8.out.size hd9.below)
            clear hd9
            go_wp2_with fail
            go_roundg (10 - (i + 1))
            case measure => omega
            case rel => exact ⟨i + 1, by go_num, by omega, rfl, ⟨below_then HL.out.1 HL.out.1.size HBr9.out, (HBr9.out.block _ (blk_lt HL.out.2.1)).trans HL.out.2.1, HL.out.2.2⟩⟩
        · obtain rfl : i = 10 := by omega
          go_wp2_with fail
          with_reducible refine (HF.out _ (below_then HB4.out HB4.out.size HL.out.1)).mono ?_
          rintro e v9 ⟨rfl, hb9⟩
          go_wp2_with fail
          go_ret
          exact ⟨rfl, hb9⟩
end Go.Proofs.YtjllmamblkejjaaGreatDoor
end
