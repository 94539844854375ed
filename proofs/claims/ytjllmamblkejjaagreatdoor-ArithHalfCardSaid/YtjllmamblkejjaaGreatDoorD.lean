/- A part of the proof: texts of ours, joined by a program, each in a section of its own; what each proves, and under what conditions, stands ahead of it. -/
import Derived.Test.YtjllmamblkejjaaGreatDoorC
import Derived.Laws.BytesString
import Derived.Laws.IdiomStrings

/- Plain law: tokens of a text that is put together of known parts. No program in sight. No conditions. -/
section
set_option linter.unusedVariables false
set_option linter.unusedSimpArgs false
namespace Go.Proofs.YtjllmamblkejjaaGreatDoor
open Sp

theorem tokAt_sh (r : Bs) (a k : Nat) : tokAt r (a + k) = shT k (tokAt r a) := by
  unfold tokAt
  split
  · simp [shT]
  · split
    · simp [shT]; omega
    · split
      · simp [shT]; omega
      · split
        · simp [shT]; omega
        · simp [shT]
/-- A token behind a part of the text. -/
theorem next_app (A R : Bs) (k : Nat) : next (A ++ R) (A.length + k) = shT A.length (next R k) := by
  have h : (A ++ R).drop (A.length + k) = R.drop k := by rw [List.drop_append]; simp
  unfold next
  rw [h]
  have h2 : (A ++ R).drop (A.length + k + skip (R.drop k)) = R.drop (k + skip (R.drop k)) := by rw [List.drop_append]; simp [Nat.add_assoc]
  rw [h2, show A.length + k + skip (R.drop k) = k + skip (R.drop k) + A.length by omega, tokAt_sh]
theorem tk {T A R : Bs} {k : Nat} {u : Tok} (hT : T = A ++ R) (h : next R k = u) {n : Nat} (hn : n = A.length + k) : next T n = shT A.length u := by
  subst hT hn h; exact next_app A R k
/-- A number that ends where it should. -/
theorem g_num {T A R : Bs} {k n m : Nat} (hT : T = A ++ R) (h : next R k = ⟨wNum, k, m, n, false, []⟩) (he : R.drop m = [] ∨ ∃ c cs, R.drop m = c :: cs ∧ name (c :: cs) = 0 ∧ isDig c = false)
    {a : Nat} (ha : a = A.length + k) {z : Nat} (hz : z = A.length + m) : Gets (operand T · (next T a)) (.num n a) (next T z) := by
  have ht := tk hT h ha
  have hd : T.drop (m + A.length) = R.drop m := by rw [hT, List.drop_append]; simp
  rw [ht]
  have hc : constant T (shT A.length ⟨wNum, k, m, n, false, []⟩) = .ok (.num n a) (next T z) := by
    unfold constant
    have ho : (shT A.length ⟨wNum, k, m, n, false, []⟩).over = false := rfl
    have hf : (shT A.length ⟨wNum, k, m, n, false, []⟩).fin = m + A.length := rfl
    have hp : (shT A.length ⟨wNum, k, m, n, false, []⟩).pos = k + A.length := rfl
    have hnn : (shT A.length ⟨wNum, k, m, n, false, []⟩).num = n := rfl
    rw [ho, hf, hp, hnn, hd, if_neg (by simp)]
    rw [show a = k + A.length by omega, show z = m + A.length by omega]
    rcases he with he | ⟨c, cs, he, h1, h2⟩
    · rw [he]
    · rw [he]
      show (if 0 < name (c :: cs) ∨ isDig c = true then _ else _) = _
      rw [if_neg (by rw [h1, h2]; simp)]
  exact g_operand_num rfl hc
theorem nameGo_stop (c : UInt8) (cs : Bs) (h1 : letter c = false) (h2 : isDig c = false) : ∀ (x : Bs) (i : Nat), nameGo x i = i + x.length → nameGo (x ++ c :: cs) i = i + x.length
  | [], i, _ => by
    show (if (!letter c && (i == 0 || !isDig c)) = true then i else _) = _
    rw [h1, h2]; simp
  | y :: x, i, h => by
    rw [nameGo] at h
    rw [List.cons_append, nameGo]
    split at h
    · simp at h
    · rename_i hy
      rw [if_neg hy]
      have := nameGo_stop c cs h1 h2 x (i + 1) (by simp at h; omega)
      rw [this]; simp; omega
theorem name_head {x : Bs} (h : isName x) : ∃ y r, x = y :: r ∧ letter y = true := by
  obtain ⟨h0, h1⟩ := h
  match x, h0 with
  | y :: r, _ =>
    refine ⟨y, r, rfl, ?_⟩
    unfold name at h1
    rw [nameGo] at h1
    cases hl : letter y
    · rw [hl] at h1; simp at h1
    · rfl
theorem letter_ns (y : UInt8) (h : letter y = true) : (y ≠ 32 ∧ y ≠ 9 ∧ y ≠ 10) ∧ (y < 48 ∨ 57 < y) := by
  simp only [letter, Bool.or_eq_true, Bool.and_eq_true, decide_eq_true_eq, beq_iff_eq] at h
  simp only [UInt8.le_iff_toNat_le, UInt8.lt_iff_toNat_lt, ← UInt8.toNat_inj, ne_eq] at h ⊢
  simp only [UInt8.reduceToNat] at h ⊢
  omega
/-- A name, with what is no part of it behind. -/
theorem next_name {x : Bs} (h : isName x) (c : UInt8) (cs : Bs) (h1 : letter c = false) (h2 : isDig c = false) : next (x ++ c :: cs) 0 = ⟨wName, 0, x.length, 0, false, x⟩ := by
  obtain ⟨y, r, hy, hl⟩ := name_head h
  have hnm : name (x ++ c :: cs) = x.length := by
    have := nameGo_stop c cs h1 h2 x 0 (by rw [Nat.zero_add]; exact h.2)
    rw [Nat.zero_add] at this; exact this
  obtain ⟨⟨s1, s2, s3⟩, hd⟩ := letter_ns y hl
  have hsk : skip (x ++ c :: cs) = 0 := by rw [hy]; show (if y = 32 ∨ y = 9 ∨ y = 10 then _ else 0) = 0; rw [if_neg (by simp [s1, s2, s3])]
  have hct : (const (x ++ c :: cs)).2.1 = 0 := by rw [hy]; show (if y < 48 ∨ 57 < y then (0, 0, false) else _).2.1 = 0; rw [if_pos hd]
  have hx0 : 0 < x.length := by rw [hy]; simp
  unfold next
  rw [List.drop_zero, hsk, Nat.add_zero, List.drop_zero]
  unfold tokAt
  rw [if_neg (by simp), if_neg (by omega), if_pos (by omega), hnm]
  simp
end Go.Proofs.YtjllmamblkejjaaGreatDoor
end

/- Plain law: && || and ? look at no more than they need, at ArithHalf's texts. No program in sight. Conditions: x is a name, b reads as an expression. -/
section
set_option linter.unusedVariables false
set_option linter.unusedSimpArgs false
namespace Go.Proofs.YtjllmamblkejjaaGreatDoor
open Sp

/-- ArithHalf's p. -/
def halfP (x b : Bs) : Bs := [40, 49, 47, 48, 43, 40] ++ x ++ [61, 53, 41, 43] ++ ([40] ++ b ++ [41]) ++ [41]
theorem half_par (pre post x b : Bs) (hx : isName x) {f : Nat} {e : Ex} {t : Tok} (h : parse b f = .ok e t) :
    ∃ X, Gets (operand (pre ++ (halfP x b ++ post)) · (next (pre ++ (halfP x b ++ post)) pre.length)) X (next (pre ++ (halfP x b ++ post)) (pre.length + (halfP x b).length)) := by
  have hl : (halfP x b).length = x.length + b.length + 13 := by simp [halfP]; omega
  rw [hl]
  generalize hT : pre ++ (halfP x b ++ post) = T
  have e0 : T = pre ++ ([40, 49, 47, 48, 43, 40] ++ (x ++ ([61, 53, 41, 43, 40] ++ (b ++ 41 :: (41 :: post))))) := by rw [← hT]; simp [halfP]
  have e1 : T = (pre ++ [40, 49, 47, 48, 43, 40]) ++ (x ++ 61 :: ([53, 41, 43, 40] ++ (b ++ 41 :: (41 :: post)))) := by rw [e0]; simp
  have e2 : T = (pre ++ [40, 49, 47, 48, 43, 40] ++ x) ++ ([61, 53, 41, 43, 40] ++ (b ++ 41 :: (41 :: post))) := by rw [e0]; simp
  have e3 : T = (pre ++ [40, 49, 47, 48, 43, 40] ++ x ++ [61, 53, 41, 43, 40]) ++ b ++ 41 :: (41 :: post) := by rw [e0]; simp
  have e4 : T = (pre ++ [40, 49, 47, 48, 43, 40] ++ x ++ [61, 53, 41, 43, 40] ++ b ++ [41]) ++ (41 :: post) := by rw [e0]; simp
  clear hT
  have t0 := tk e0 (show next _ 0 = ⟨[40], 0, 1, 0, false, []⟩ by rfl) (n := pre.length) rfl
  have ot0 : (next T (pre.length)).op = [40] := by rw [t0]; rfl
  have g1 := g_num e0 (show next _ 1 = ⟨wNum, 1, 2, 1, false, []⟩ by rfl) (.inr ⟨47, _, rfl, rfl, rfl⟩) (a := pre.length + 1) rfl (z := pre.length + 2) rfl
  have t1 := tk e0 (show next _ 1 = ⟨wNum, 1, 2, 1, false, []⟩ by rfl) (n := pre.length + 1) rfl
  have ot1 : (next T (pre.length + 1)).op = wNum := by rw [t1]; rfl
  have t2 := tk e0 (show next _ 2 = ⟨[47], 2, 3, 0, false, []⟩ by rfl) (n := pre.length + 2) rfl
  have ot2 : (next T (pre.length + 2)).op = [47] := by rw [t2]; rfl
  have g3 := g_num e0 (show next _ 3 = ⟨wNum, 3, 4, 0, false, []⟩ by rfl) (.inr ⟨43, _, rfl, rfl, rfl⟩) (a := pre.length + 3) rfl (z := pre.length + 4) rfl
  have t4 := tk e0 (show next _ 4 = ⟨[43], 4, 5, 0, false, []⟩ by rfl) (n := pre.length + 4) rfl
  have ot4 : (next T (pre.length + 4)).op = [43] := by rw [t4]; rfl
  have t5 := tk e0 (show next _ 5 = ⟨[40], 5, 6, 0, false, []⟩ by rfl) (n := pre.length + 5) rfl
  have ot5 : (next T (pre.length + 5)).op = [40] := by rw [t5]; rfl
  have t6 := tk e1 (next_name hx 61 _ rfl rfl) (n := pre.length + 6) (by simp)
  have ot6 : (next T (pre.length + 6)).op = wName := by rw [t6]; rfl
  have t7 := tk e2 (show next _ 0 = ⟨[61], 0, 1, 0, false, []⟩ by rfl) (n := pre.length + 6 + x.length) (by simp; omega)
  have ot7 : (next T (pre.length + 6 + x.length)).op = [61] := by rw [t7]; rfl
  have g8 := g_num e2 (show next _ 1 = ⟨wNum, 1, 2, 5, false, []⟩ by rfl) (.inr ⟨41, _, rfl, rfl, rfl⟩) (a := pre.length + 6 + x.length + 1) (by simp; omega) (z := pre.length + 6 + x.length + 2) (by simp; omega)
  have t9 := tk e2 (show next _ 2 = ⟨[41], 2, 3, 0, false, []⟩ by rfl) (n := pre.length + 6 + x.length + 2) (by simp; omega)
  have ot9 : (next T (pre.length + 6 + x.length + 2)).op = [41] := by rw [t9]; rfl
  have t8 := tk e2 (show next _ 1 = ⟨wNum, 1, 2, 5, false, []⟩ by rfl) (n := pre.length + 6 + x.length + 1) (by simp; omega)
  have ot8 : (next T (pre.length + 6 + x.length + 1)).op = wNum := by rw [t8]; rfl
  have t10 := tk e2 (show next _ 3 = ⟨[43], 3, 4, 0, false, []⟩ by rfl) (n := pre.length + 6 + x.length + 3) (by simp; omega)
  have ot10 : (next T (pre.length + 6 + x.length + 3)).op = [43] := by rw [t10]; rfl
  have t11 := tk e2 (show next _ 4 = ⟨[40], 4, 5, 0, false, []⟩ by rfl) (n := pre.length + 6 + x.length + 4) (by simp; omega)
  have ot11 : (next T (pre.length + 6 + x.length + 4)).op = [40] := by rw [t11]; rfl
  have t12 := tk e4 (show next _ 0 = ⟨[41], 0, 1, 0, false, []⟩ by rfl) (n := pre.length + 6 + x.length + 5 + b.length + 1) (by simp; omega)
  have ot12 : (next T (pre.length + 6 + x.length + 5 + b.length + 1)).op = [41] := by rw [t12]; rfl
  have gb := parens_get (pre ++ [40, 49, 47, 48, 43, 40] ++ x ++ [61, 53, 41, 43, 40]) b (41 :: post) h (t0 := next T (pre.length + 6 + x.length + 4)) (by rw [t11]; rfl) (by rw [t11]; simp [shT]; omega)
  rw [← e3] at gb
  have hq : (pre ++ [40, 49, 47, 48, 43, 40] ++ x ++ [61, 53, 41, 43, 40] : Bs).length + b.length + 1 = pre.length + 6 + x.length + 5 + b.length + 1 := by simp; omega
  rw [hq] at gb
  -- the places behind the tokens
  have f0 : (next T pre.length).fin = pre.length + 1 := by rw [t0]; simp [shT]; omega
  have f2 : (next T (pre.length + 2)).fin = pre.length + 3 := by rw [t2]; simp [shT]; omega
  have f4 : (next T (pre.length + 4)).fin = pre.length + 5 := by rw [t4]; simp [shT]; omega
  have f5 : (next T (pre.length + 5)).fin = pre.length + 6 := by rw [t5]; simp [shT]; omega
  have f6 : (next T (pre.length + 6)).fin = pre.length + 6 + x.length := by rw [t6]; simp [shT]; omega
  have f7 : (next T (pre.length + 6 + x.length)).fin = pre.length + 6 + x.length + 1 := by rw [t7]; simp [shT]; omega
  have f9 : (next T (pre.length + 6 + x.length + 2)).fin = pre.length + 6 + x.length + 3 := by rw [t9]; simp [shT]; omega
  have f10 : (next T (pre.length + 6 + x.length + 3)).fin = pre.length + 6 + x.length + 4 := by rw [t10]; simp [shT]; omega
  have f12 : (next T (pre.length + 6 + x.length + 5 + b.length + 1)).fin = pre.length + (x.length + b.length + 13) := by rw [t12]; simp [shT]; omega
  -- (x=5)
  have s5 : Gets (expr T · (next T (pre.length + 6 + x.length + 1))) (.num 5 (pre.length + 6 + x.length + 1)) (next T (pre.length + 6 + x.length + 2)) :=
    g_expr_cond (by rw [ot8]; intro h; exact absurd h.1 (by decide)) (g_cond (g_bin g8 (g_loop_end (by rw [ot9]; decide))) (by rw [ot9]; decide))
  have sa : Gets (expr T · (next T (pre.length + 6))) _ (next T (pre.length + 6 + x.length + 2)) :=
    g_expr_asg (by rw [t6]; rfl) (by rw [f6, ot7]; decide) (by rw [f6, f7]; exact s5)
  obtain ⟨E1, sp⟩ : ∃ e, Gets (operand T · (next T (pre.length + 5))) e (next T (pre.length + 6 + x.length + 3)) := by
    have := g_operand_par (b := T) (t := next T (pre.length + 5)) (by rw [t5]; rfl) (by rw [f5]; exact sa) (by rw [t9]; rfl)
    rw [f9] at this; exact ⟨_, this⟩
  obtain ⟨E2, gb⟩ : ∃ e, Gets (operand T · (next T (pre.length + 6 + x.length + 4))) e (next T (pre.length + 6 + x.length + 5 + b.length + 1)) := ⟨_, gb⟩
  -- 1/0+(x=5)+(b)
  obtain ⟨E3, l2⟩ : ∃ e, Gets (loop T · 0 (.bin (next T (pre.length + 4)).op (next T (pre.length + 4)).pos (.bin (next T (pre.length + 2)).op (next T (pre.length + 2)).pos (.num 1 (pre.length + 1)) (.num 0 (pre.length + 3))) E1) (next T (pre.length + 6 + x.length + 3))) e (next T (pre.length + 6 + x.length + 5 + b.length + 1)) :=
    ⟨_, g_loop_on (k := E2) (by rw [ot10]; decide) (by rw [f10]; exact g_bin gb (g_loop_end (by rw [ot12, ot10]; decide))) (g_loop_end (by rw [ot12]; decide))⟩
  have l1 : Gets (loop T · 0 (.bin (next T (pre.length + 2)).op (next T (pre.length + 2)).pos (.num 1 (pre.length + 1)) (.num 0 (pre.length + 3))) (next T (pre.length + 4))) E3 (next T (pre.length + 6 + x.length + 5 + b.length + 1)) :=
    g_loop_on (k := E1) (by rw [ot4]; decide) (by rw [f4]; exact g_bin sp (g_loop_end (by rw [ot10, ot4]; decide))) l2
  have l0 : Gets (loop T · 0 (.num 1 (pre.length + 1)) (next T (pre.length + 2))) E3 (next T (pre.length + 6 + x.length + 5 + b.length + 1)) :=
    g_loop_on (k := .num 0 (pre.length + 3)) (by rw [ot2]; decide) (by rw [f2]; exact g_bin g3 (g_loop_end (by rw [ot4, ot2]; decide))) l1
  have se : Gets (expr T · (next T (pre.length + 1))) E3 (next T (pre.length + 6 + x.length + 5 + b.length + 1)) :=
    g_expr_cond (by rw [ot1]; intro h; exact absurd h.1 (by decide)) (g_cond (g_bin g1 l0) (by rw [ot12]; decide))
  have := g_operand_par (b := T) (t := next T pre.length) (by rw [t0]; rfl) (by rw [f0]; exact se) (by rw [t12]; rfl)
  rw [f12] at this
  exact ⟨_, this⟩

/-- The texts with an operator ahead. -/
theorem half_two (o1 o2 d : UInt8) (n s : Nat) (x b : Bs) (hx : isName x) {f : Nat} {e : Ex} {t : Tok} (h : parse b f = .ok e t)
    (k0 : ∀ r : Bs, next (d :: 32 :: o1 :: o2 :: 32 :: r) 0 = ⟨wNum, 0, 1, n, false, []⟩) (k1 : ∀ r : Bs, next (d :: 32 :: o1 :: o2 :: 32 :: r) 1 = ⟨[o1, o2], 2, 4, 0, false, []⟩)
    (hs : strength [o1, o2] = s + 1) :
    ∃ X tt, tt.op = [] ∧ Gets (expr ([d, 32, o1, o2, 32] ++ halfP x b) · (next ([d, 32, o1, o2, 32] ++ halfP x b) 0)) (.bin [o1, o2] 2 (.num n 0) X) tt := by
  obtain ⟨X, hX⟩ := half_par [d, 32, o1, o2, 32] [] x b hx h
  rw [List.append_nil] at hX
  have hp : halfP x b = 40 :: (halfP x b).tail := by simp [halfP]
  have hend : (next ([d, 32, o1, o2, 32] ++ halfP x b) ([d, 32, o1, o2, 32].length + (halfP x b).length)).op = [] := by
    rw [next_app]
    have : next (halfP x b) (halfP x b).length = ⟨[], (halfP x b).length, (halfP x b).length, 0, false, []⟩ := by
      unfold next; rw [List.drop_length]; simp [skip, tokAt]
    rw [this]; rfl
  generalize hT : [d, 32, o1, o2, 32] ++ halfP x b = T at *
  have e0 : T = [] ++ (d :: 32 :: o1 :: o2 :: 32 :: (40 :: (halfP x b).tail)) := by rw [← hp, ← hT]; simp
  have u0 := tk e0 (k0 _) (n := 0) rfl
  have ou0 : (next T (0)).op = wNum := by rw [u0]; rfl
  have u1 := tk e0 (k1 _) (n := 1) rfl
  have ou1 : (next T (1)).op = [o1, o2] := by rw [u1]; rfl
  have gn := g_num e0 (k0 _) (.inr ⟨32, _, rfl, rfl, rfl⟩) (a := 0) rfl (z := 1) rfl
  have e5 : T = [d, 32, o1, o2, 32] ++ (halfP x b) := hT.symm
  have e6 : T = [d, 32, o1, o2] ++ (32 :: 40 :: (halfP x b).tail) := by rw [← hT, hp]; simp
  have v1 := tk e5 (show next (halfP x b) 0 = ⟨[40], 0, 1, 0, false, []⟩ by rw [hp]; rfl) (n := 5) rfl
  have ov1 : (next T (5)).op = [40] := by rw [v1]; rfl
  have v0 := tk e6 (show next _ 0 = ⟨[40], 1, 2, 0, false, []⟩ by rfl) (n := 4) rfl
  have ov0 : (next T (4)).op = [40] := by rw [v0]; rfl
  have hv : next T 4 = next T 5 := by rw [v0, v1]; rfl
  have f1 : (next T 1).fin = 4 := by rw [u1]; rfl
  refine ⟨X, _, hend, g_expr_cond (by rw [ou0]; intro h; exact absurd h.1 (by decide)) (g_cond (g_bin gn ?_) (by rw [hend]; decide))⟩
  have l1 := g_loop_end (b := T) (l := 0) (e := .bin (next T 1).op (next T 1).pos (.num n 0) X) (t := next T ([d, 32, o1, o2, 32].length + (halfP x b).length)) (by rw [hend]; decide)
  have l0 := g_loop_on (l := 0) (t := next T 1) (e := .num n 0) (by rw [ou1]; show ¬ strength [o1, o2] < 1; omega) (by rw [f1, hv]; exact g_bin hX (g_loop_end (by rw [hend]; show 0 < _; omega))) l1
  rw [u1] at l0 ⊢
  exact l0
theorem half_tern1 (x b : Bs) (hx : isName x) {f : Nat} {e : Ex} {t : Tok} (h : parse b f = .ok e t) :
    ∃ X tt, tt.op = [] ∧ Gets (expr ([49, 32, 63, 32, 55, 32, 58, 32] ++ halfP x b) · (next ([49, 32, 63, 32, 55, 32, 58, 32] ++ halfP x b) 0)) (.tern 2 (.num 1 0) (.num 7 4) X) tt := by
  obtain ⟨X, hX⟩ := half_par [49, 32, 63, 32, 55, 32, 58, 32] [] x b hx h
  rw [List.append_nil] at hX
  have hp : halfP x b = 40 :: (halfP x b).tail := by simp [halfP]
  have hend : (next ([49, 32, 63, 32, 55, 32, 58, 32] ++ halfP x b) (([49, 32, 63, 32, 55, 32, 58, 32] : Bs).length + (halfP x b).length)).op = [] := by
    rw [next_app]
    have : next (halfP x b) (halfP x b).length = ⟨[], (halfP x b).length, (halfP x b).length, 0, false, []⟩ := by
      unfold next; rw [List.drop_length]; simp [skip, tokAt]
    rw [this]; rfl
  generalize hT : [49, 32, 63, 32, 55, 32, 58, 32] ++ halfP x b = T at *
  have e0 : T = [] ++ (49 :: 32 :: 63 :: 32 :: 55 :: 32 :: 58 :: 32 :: (40 :: (halfP x b).tail)) := by rw [← hp, ← hT]; simp
  have u0 := tk e0 (show next _ 0 = ⟨wNum, 0, 1, 1, false, []⟩ by rfl) (n := 0) rfl
  have ou0 : (next T (0)).op = wNum := by rw [u0]; rfl
  have u1 := tk e0 (show next _ 1 = ⟨[63], 2, 3, 0, false, []⟩ by rfl) (n := 1) rfl
  have ou1 : (next T (1)).op = [63] := by rw [u1]; rfl
  have u3 := tk e0 (show next _ 3 = ⟨wNum, 4, 5, 7, false, []⟩ by rfl) (n := 3) rfl
  have ou3 : (next T (3)).op = wNum := by rw [u3]; rfl
  have u5 := tk e0 (show next _ 5 = ⟨[58], 6, 7, 0, false, []⟩ by rfl) (n := 5) rfl
  have ou5 : (next T (5)).op = [58] := by rw [u5]; rfl
  have g0 := g_num e0 (show next _ 0 = ⟨wNum, 0, 1, 1, false, []⟩ by rfl) (.inr ⟨32, _, rfl, rfl, rfl⟩) (a := 0) rfl (z := 1) rfl
  have g3 : Gets (operand T · (next T 3)) (.num 7 4) (next T 5) := by
    have e4 : T = [49, 32, 63, 32] ++ (55 :: 32 :: 58 :: 32 :: (40 :: (halfP x b).tail)) := by rw [← hp, ← hT]; simp
    have := g_num e4 (show next _ 0 = ⟨wNum, 0, 1, 7, false, []⟩ by rfl) (.inr ⟨32, _, rfl, rfl, rfl⟩) (a := 4) rfl (z := 5) rfl
    have hv : next T 3 = next T 4 := by rw [u3, tk e4 (show next _ 0 = ⟨wNum, 0, 1, 7, false, []⟩ by rfl) (n := 4) rfl]; rfl
    rw [hv]; exact this
  have e5 : T = [49, 32, 63, 32, 55, 32, 58, 32] ++ (halfP x b) := hT.symm
  have v1 := tk e5 (show next (halfP x b) 0 = ⟨[40], 0, 1, 0, false, []⟩ by rw [hp]; rfl) (n := 8) rfl
  have ov1 : (next T (8)).op = [40] := by rw [v1]; rfl
  have v0 := tk e0 (show next _ 7 = ⟨[40], 8, 9, 0, false, []⟩ by rfl) (n := 7) rfl
  have ov0 : (next T (7)).op = [40] := by rw [v0]; rfl
  have hv : next T 7 = next T 8 := by rw [v0, v1]; rfl
  have f1 : (next T 1).fin = 3 := by rw [u1]; rfl
  have f5 : (next T 5).fin = 7 := by rw [u5]; rfl
  have hpos : (next T 1).pos = 2 := by rw [u1]; rfl
  refine ⟨X, _, hend, g_expr_cond (by rw [ou0]; intro h; exact absurd h.1 (by decide)) ?_⟩
  have := g_tern (b := T) (g_bin g0 (g_loop_end (by rw [ou1]; decide))) (by rw [u1]; rfl) (by rw [f1]; exact g_expr_cond (by rw [ou3]; intro h; exact absurd h.1 (by decide)) (g_cond (g_bin g3 (g_loop_end (by rw [ou5]; decide))) (by rw [ou5]; decide))) (by rw [u5]; rfl) (by rw [f5, hv]; exact g_cond (g_bin hX (g_loop_end (by rw [hend]; decide))) (by rw [hend]; decide))
  rw [hpos] at this
  exact this
theorem half_tern0 (x b : Bs) (hx : isName x) {f : Nat} {e : Ex} {t : Tok} (h : parse b f = .ok e t) :
    ∃ X p tt, tt.op = [] ∧ Gets (expr ([48, 32, 63, 32] ++ (halfP x b ++ [32, 58, 32, 56])) · (next ([48, 32, 63, 32] ++ (halfP x b ++ [32, 58, 32, 56])) 0)) (.tern 2 (.num 0 0) X (.num 8 p)) tt := by
  obtain ⟨X, hX⟩ := half_par [48, 32, 63, 32] [32, 58, 32, 56] x b hx h
  have hp : halfP x b = 40 :: (halfP x b).tail := by simp [halfP]
  generalize hT : [48, 32, 63, 32] ++ (halfP x b ++ [32, 58, 32, 56]) = T at *
  have e0 : T = [] ++ (48 :: 32 :: 63 :: 32 :: (40 :: ((halfP x b).tail ++ [32, 58, 32, 56]))) := by rw [← hT]; rw [hp]; simp
  have e5 : T = [48, 32, 63, 32] ++ (40 :: ((halfP x b).tail ++ [32, 58, 32, 56])) := by rw [← hT]; rw [hp]; simp
  have e6 : T = ([48, 32, 63, 32] ++ halfP x b) ++ [32, 58, 32, 56] := by rw [← hT]; simp
  have u0 := tk e0 (show next _ 0 = ⟨wNum, 0, 1, 0, false, []⟩ by rfl) (n := 0) rfl
  have ou0 : (next T (0)).op = wNum := by rw [u0]; rfl
  have u1 := tk e0 (show next _ 1 = ⟨[63], 2, 3, 0, false, []⟩ by rfl) (n := 1) rfl
  have ou1 : (next T (1)).op = [63] := by rw [u1]; rfl
  have u3 := tk e0 (show next _ 3 = ⟨[40], 4, 5, 0, false, []⟩ by rfl) (n := 3) rfl
  have ou3 : (next T (3)).op = [40] := by rw [u3]; rfl
  have u4 := tk e5 (show next _ 0 = ⟨[40], 0, 1, 0, false, []⟩ by rfl) (n := 4) rfl
  have ou4 : (next T (4)).op = [40] := by rw [u4]; rfl
  have hv : next T 3 = next T 4 := by rw [u3, u4]; rfl
  have g0 := g_num e0 (show next _ 0 = ⟨wNum, 0, 1, 0, false, []⟩ by rfl) (.inr ⟨32, _, rfl, rfl, rfl⟩) (a := 0) rfl (z := 1) rfl
  have c0 := tk e6 (show next _ 0 = ⟨[58], 1, 2, 0, false, []⟩ by rfl) (n := ([48, 32, 63, 32] : Bs).length + (halfP x b).length) (by simp; omega)
  have oc0 : (next T (([48, 32, 63, 32] : Bs).length + (halfP x b).length)).op = [58] := by rw [c0]; rfl
  have c2 := tk e6 (show next _ 2 = ⟨wNum, 3, 4, 8, false, []⟩ by rfl) (n := ([48, 32, 63, 32] : Bs).length + (halfP x b).length + 2) (by simp; omega)
  have oc2 : (next T (([48, 32, 63, 32] : Bs).length + (halfP x b).length + 2)).op = wNum := by rw [c2]; rfl
  have c3 := tk e6 (show next _ 3 = ⟨wNum, 3, 4, 8, false, []⟩ by rfl) (n := ([48, 32, 63, 32] : Bs).length + (halfP x b).length + 3) (by simp; omega)
  have oc3 : (next T (([48, 32, 63, 32] : Bs).length + (halfP x b).length + 3)).op = wNum := by rw [c3]; rfl
  have hv8 : next T (([48, 32, 63, 32] : Bs).length + (halfP x b).length + 2) = next T (([48, 32, 63, 32] : Bs).length + (halfP x b).length + 3) := by rw [c2, c3]
  have g8 := g_num e6 (show next _ 3 = ⟨wNum, 3, 4, 8, false, []⟩ by rfl) (.inl rfl) (a := ([48, 32, 63, 32] : Bs).length + (halfP x b).length + 3) (by simp; omega) (z := ([48, 32, 63, 32] : Bs).length + (halfP x b).length + 4) (by simp; omega)
  have c4 := tk e6 (show next _ 4 = ⟨[], 4, 4, 0, false, []⟩ by rfl) (n := ([48, 32, 63, 32] : Bs).length + (halfP x b).length + 4) (by simp; omega)
  have oc4 : (next T (([48, 32, 63, 32] : Bs).length + (halfP x b).length + 4)).op = [] := by rw [c4]; rfl
  have f1 : (next T 1).fin = 3 := by rw [u1]; rfl
  have fc : (next T (([48, 32, 63, 32] : Bs).length + (halfP x b).length)).fin = ([48, 32, 63, 32] : Bs).length + (halfP x b).length + 2 := by rw [c0]; simp [shT]; omega
  have hpos : (next T 1).pos = 2 := by rw [u1]; rfl
  have hlen : ([48, 32, 63, 32] : Bs).length = 4 := rfl
  refine ⟨X, ([48, 32, 63, 32] : Bs).length + (halfP x b).length + 3, next T (([48, 32, 63, 32] : Bs).length + (halfP x b).length + 4), oc4, g_expr_cond (by rw [ou0]; intro h; exact absurd h.1 (by decide)) ?_⟩
  have := g_tern (b := T) (g_bin g0 (g_loop_end (by rw [ou1]; decide))) (by rw [u1]; rfl) (by rw [f1, hv]; exact g_expr_cond (by rw [ou4]; intro h; exact absurd h.1 (by decide)) (g_cond (g_bin hX (g_loop_end (by rw [oc0]; decide))) (by rw [oc0]; decide))) (by rw [c0]; rfl) (by rw [fc, hv8]; exact g_cond (g_bin g8 (g_loop_end (by rw [oc4]; decide))) (by rw [oc4]; decide))
  rw [hpos] at this
  exact this
end Go.Proofs.YtjllmamblkejjaaGreatDoor
end

/- The laws' in: a text in parentheses. Conditions: a text of at most 2^46 bytes. -/
section
set_option linter.unusedVariables false
set_option linter.unusedSimpArgs false
namespace Go.Proofs.YtjllmamblkejjaaGreatDoor
open Go.RowKit Go.Proofs.YtjllmamblkejjaaGreatDoorW.PrintWords Go.Proofs.YtjllmamblkejjaaGreatDoorW.PrintLast Go.Proofs.YtjllmamblkejjaaGreatDoorW.PrintMore
open PQA Sp
theorem mk_app (a b : Bs) : mk a ++ mk b = mk (a ++ b) := by
  refine ByteArray.ext ?_
  show (mk a ++ mk b).data = _
  rw [ByteArray.data_append]
  simp [mk]
set_option maxRecDepth 100000 in
theorem law_in_calls (b : Bs) (A : Option Addr) (c : Nat) (w : World) (hr : Rb w A b) (hl : b.length ≤ 1000000000) (z : ByteArray) (hz : z = mk ([40] ++ b ++ [41])) :
    Calls Tryz.prog 12 #[.slice A b.length c] w fun e w' => e = .returned (.string z) ∧ w = w' := by
  have hcv := string_of w A c b hr
  have hsz : (mk b).size = b.length := mk_size b
  have hz' : ({ data := #[40] } : ByteArray) ++ mk b ++ { data := #[41] } = z := by
    rw [hz, ← mk_app, ← mk_app]; rfl
  clear hz
  go_enter Tryz.func12, Tryz.ntmps12
  go_wp2_with fail
  go_ret
  exact ⟨rfl, rfl⟩
theorem parsed_of {T : Bs} {e : Ex} {t : Tok} (h : Gets (expr T · (next T 0)) e t) (ht : t.op = []) (hl : T.length ≤ 1024) : parsed T = .ok e t := by
  unfold parsed
  rw [if_pos hl]
  exact parse_gets h ht _ (parse_good T).out
theorem rb_str (T : Bs) (W : World) (hl : T.length ≤ 1000000000) : Rb (Lib.bytesWorld W 5 (mk T)) (some ⟨W.heap.size, 0, none⟩) T := by
  have hr := bytes_reads W 5 (mk T) (by rw [mk_size]; omega)
  have hb : bytesOf (mk T) = ints T := by simp [bytesOf, ints, mk]
  rw [hb] at hr
  rw [mk_size] at hr
  exact Kd.C_of_reads (d := 0) (h1 := fun _ => rfl) hr
/-- Eval of a text made of a string, over variables of the call's own that there are none of. -/
theorem eval_str (E : Nat → Addr) (T : Bs) (z : ByteArray) (hz : z = mk T) (hl : T.length ≤ 1000000000) {ex : Ex} {t : Tok} (hp : parsed T = .ok ex t) {r : Int} (hev : ev (mach []) ex [] = .ok r []) (w W : World) (q : Nat) (hq : q = W.heap.size) (n : Nat) (hn : n = z.size)
    (g bv : Nat) (hE : Env E w) (hv : VarsIn W g bv []) (hB : Below w.heap.size w W) (hbv : w.heap.size ≤ bv) :
    Calls Tryz.prog 13 #[.slice (some ⟨q, 0, none⟩) n (grownCap W n 0 5), .pointer (some ⟨g, 0, none⟩)] (Lib.bytesWorld W 5 z) fun e w' =>
      e = .returned (.tuple #[.int .i64 r, .nilIface]) ∧ VarsIn w' g bv [] ∧ Below w.heap.size w w' := by
  subst hz hq hn
  have hB1 : Below w.heap.size w (Lib.bytesWorld W 5 (mk T)) := bytes_below hB hB.size _ _
  have hv1 : VarsIn (Lib.bytesWorld W 5 (mk T)) g bv [] := hv.below (bytes_below (Below.refl _ _) (Nat.le_refl _) _ _)
  refine (eval_at E T _ _ _ (mk_size T) (.pointer (some ⟨g, 0, none⟩)) [] _ (hE.below hB1) (rb_str T W hl) (by rw [mk_size]; exact grownCap_ge _ _ _ _) hv1.at_ (by simp)).mono ?_
  rintro e w' h
  rw [hp] at h
  obtain ⟨rfl, hv2, hg⟩ := h.vars hv1 hev
  exact ⟨rfl, hv2, hB1.grown hg hB1.size (fun k hk => by cases hk; exact hbv)⟩
theorem ev_and0 (X : Ex) (p q : Nat) : ev (mach []) (.bin [38, 38] p (.num 0 q) X) [] = .ok 0 [] := by
  rw [ev, if_pos rfl]; rfl
theorem ev_or1 (X : Ex) (p q : Nat) : ev (mach []) (.bin [124, 124] p (.num 1 q) X) [] = .ok 1 [] := by
  rw [ev, if_neg (by decide), if_pos rfl]; rfl
theorem ev_tern1 (X Y : Ex) (p q n m : Nat) : ev (mach []) (.tern p (.num 1 q) (.num n m) X) [] = .ok n [] := by
  rw [ev]; rfl
theorem ev_tern0 (X : Ex) (p q n m : Nat) : ev (mach []) (.tern p (.num 0 q) X (.num n m)) [] = .ok n [] := by
  rw [ev]; rfl
end Go.Proofs.YtjllmamblkejjaaGreatDoor
end

/- ArithHalf answers true. Conditions: a name of at most 2^47 bytes. -/
section
set_option linter.unusedVariables false
set_option linter.unusedSimpArgs false
namespace Go.Proofs.YtjllmamblkejjaaGreatDoor
open Go.RowKit Go.Proofs.YtjllmamblkejjaaGreatDoorW.PrintWords Go.Proofs.YtjllmamblkejjaaGreatDoorW.PrintLast Go.Proofs.YtjllmamblkejjaaGreatDoorW.PrintMore
open PQA Sp

set_option maxHeartbeats 4000000 in
set_option maxRecDepth 100000 in
theorem arithHalf_calls (E : Nat → Addr) (b : Bs) (A : Option Addr) (c : Nat) (x : Bs) (w : World) (hE : Env E w) (hr : Rb w A b) (hc : b.length ≤ c) (hxl : x.length ≤ 140737488355328) :
    Calls Tryz.prog 3 #[.slice A b.length c, .string (mk x)] w fun e w' => e = .returned (.bool true) ∧ Below w.heap.size w w' := by
  have hszx : (mk x).size = x.length := mk_size x
  have HE := Aside0.mk hE
  have HR := Aside0.mk hr
  have HC := Aside0.mk hc
  have HXL := Aside0.mk hxl
  clear hE hr hc
  have hfin : ∀ W, Below w.heap.size w W → Calls Tryz.prog 9 #[] W fun e w' => e = .returned (.bool true) ∧ Below w.heap.size w w' := fun W hB =>
    (awake_calls E W (HE.out.below hB)).mono fun e w' h => ⟨h.1, below_then hB hB.size h.2⟩
  have HF := Aside0.mk hfin
  clear hfin
  by_cases h1 : 100 < x.length
  · clear hxl
    go_enter Tryz.func3, Tryz.ntmps3
    go_wp2_with fail
    with_reducible refine (isName_calls x _ HXL.out).mono ?_
    rintro e w1 ⟨bb, rfl, hnm, hb⟩
    have HB := Aside0.mk hb
    clear hb hnm
    cases bb
    all_goals
      go_wp2_with fail
      with_reducible refine (HF.out _ HB.out).mono ?_
      rintro e w2 ⟨rfl, hb2⟩
      go_wp2_with fail
      go_ret
      exact ⟨rfl, hb2⟩
  by_cases h2 : 300 < b.length
  · have hxs : x.length ≤ 100 := by omega
    clear hxl h1
    go_enter Tryz.func3, Tryz.ntmps3
    go_wp2_with fail
    with_reducible refine (isName_calls x _ HXL.out).mono ?_
    rintro e w1 ⟨bb, rfl, hnm, hb⟩
    have HB := Aside0.mk hb
    clear hb hnm
    cases bb
    all_goals
      go_wp2_with fail
      with_reducible refine (HF.out _ HB.out).mono ?_
      rintro e w2 ⟨rfl, hb2⟩
      go_wp2_with fail
      go_ret
      exact ⟨rfl, hb2⟩
  have hxs : x.length ≤ 100 := by omega
  have hbs : b.length ≤ 300 := by omega
  clear hxl h1 h2
  obtain ⟨z0, hz0⟩ : ∃ z, z = mk ([40] ++ b ++ [41]) := ⟨_, rfl⟩
  obtain ⟨y1, hy1⟩ : ∃ z, z = mk ([40, 49, 47, 48, 43, 40] ++ x) := ⟨_, rfl⟩
  obtain ⟨y2, hy2⟩ : ∃ z, z = mk ([40, 49, 47, 48, 43, 40] ++ x ++ [61, 53, 41, 43]) := ⟨_, rfl⟩
  obtain ⟨y3, hy3⟩ : ∃ z, z = mk ([40, 49, 47, 48, 43, 40] ++ x ++ [61, 53, 41, 43] ++ ([40] ++ b ++ [41])) := ⟨_, rfl⟩
  obtain ⟨y4, hy4⟩ : ∃ z, z = mk (halfP x b) := ⟨_, rfl⟩
  obtain ⟨z1, hz1⟩ : ∃ z, z = mk ([48, 32, 38, 38, 32] ++ halfP x b) := ⟨_, rfl⟩
  obtain ⟨z2, hz2⟩ : ∃ z, z = mk ([49, 32, 124, 124, 32] ++ halfP x b) := ⟨_, rfl⟩
  obtain ⟨z3, hz3⟩ : ∃ z, z = mk ([49, 32, 63, 32, 55, 32, 58, 32] ++ halfP x b) := ⟨_, rfl⟩
  obtain ⟨z4, hz4⟩ : ∃ z, z = mk ([48, 32, 63, 32] ++ halfP x b) := ⟨_, rfl⟩
  obtain ⟨z5, hz5⟩ : ∃ z, z = mk ([48, 32, 63, 32] ++ (halfP x b ++ [32, 58, 32, 56])) := ⟨_, rfl⟩
  have hPl : (halfP x b).length = x.length + b.length + 13 := by simp [halfP]; omega
  have c1 : ({ data := #[40, 49, 47, 48, 43, 40] } : ByteArray) ++ mk x = y1 := by rw [hy1, ← mk_app]; rfl
  have c2 : y1 ++ ({ data := #[61, 53, 41, 43] } : ByteArray) = y2 := by rw [hy2, ← mk_app, hy1]; rfl
  have c3 : y2 ++ z0 = y3 := by rw [hy3, ← mk_app, hy2, hz0]
  have c4 : y3 ++ ({ data := #[41] } : ByteArray) = y4 := by rw [hy4, halfP, ← mk_app, hy3]; rfl
  have d1 : ({ data := #[48, 32, 38, 38, 32] } : ByteArray) ++ y4 = z1 := by rw [hz1, ← mk_app, hy4]; rfl
  have d2 : ({ data := #[49, 32, 124, 124, 32] } : ByteArray) ++ y4 = z2 := by rw [hz2, ← mk_app, hy4]; rfl
  have d3 : ({ data := #[49, 32, 63, 32, 55, 32, 58, 32] } : ByteArray) ++ y4 = z3 := by rw [hz3, ← mk_app, hy4]; rfl
  have d4 : ({ data := #[48, 32, 63, 32] } : ByteArray) ++ y4 = z4 := by rw [hz4, ← mk_app, hy4]; rfl
  have d5 : z4 ++ ({ data := #[32, 58, 32, 56] } : ByteArray) = z5 := by rw [hz5, ← List.append_assoc, ← mk_app, hz4]; rfl
  have s0 : z0.size = b.length + 2 := by rw [hz0, mk_size]; simp
  have s1 : y1.size = x.length + 6 := by rw [hy1, mk_size]; simp
  have s2 : y2.size = x.length + 10 := by rw [hy2, mk_size]; simp
  have s3 : y3.size = x.length + 10 + (b.length + 2) := by rw [hy3, mk_size]; simp; omega
  have s4 : y4.size = x.length + b.length + 13 := by rw [hy4, mk_size, hPl]
  have s5 : z4.size = x.length + b.length + 17 := by rw [hz4, mk_size]; simp [hPl]
  have L1 : ([48, 32, 38, 38, 32] ++ halfP x b).length ≤ 1024 := by simp [hPl]; omega
  have L2 : ([49, 32, 124, 124, 32] ++ halfP x b).length ≤ 1024 := by simp [hPl]; omega
  have L3 : ([49, 32, 63, 32, 55, 32, 58, 32] ++ halfP x b).length ≤ 1024 := by simp [hPl]; omega
  have L4 : ([48, 32, 63, 32] ++ (halfP x b ++ [32, 58, 32, 56])).length ≤ 1024 := by simp [hPl]; omega
  have HS := Aside0.mk (And.intro hz1 (And.intro hz2 (And.intro hz3 hz5)))
  have HL := Aside0.mk (And.intro L1 (And.intro L2 (And.intro L3 L4)))
  have HZ0 := Aside0.mk hz0
  have HBS := Aside0.mk hbs
  have HCV := Aside0.mk (fun W s => Lib.run_convert_string_bytes (P := Tryz.prog) W 9 22 5 s Tryz.underlying9 Tryz.underlying22 Tryz.underlying5)
  have hcv := HCV.out
  clear hy1 hy2 hy3 hy4 hz0 hz1 hz2 hz3 hz4 hz5 L1 L2 L3 L4 hPl
  go_enter Tryz.func3, Tryz.ntmps3
  go_wp2_with fail
  with_reducible refine (isName_calls x _ HXL.out).mono ?_
  rintro e w1 ⟨bb, rfl, hnm, hb⟩
  have HB := Aside0.mk hb
  have HNM := Aside0.mk hnm
  clear hb hnm
  cases bb
  · go_wp2_with fail
    with_reducible refine (HF.out _ HB.out).mono ?_
    rintro e w2 ⟨rfl, hb2⟩
    go_wp2_with fail
    go_ret
    exact ⟨rfl, hb2⟩
  go_wp2_with fail
  with_reducible refine (parse_all E b A c _ (HE.out.below HB.out) (Kd.C_below HR.out HB.out) HC.out).mono ?_
  rintro e w2 hp
  obtain ⟨r, hr⟩ : ∃ r, r = parsed b := ⟨_, rfl⟩
  rw [← hr] at hp
  cases r with
  | out => exact absurd hp id
  | err cd ps =>
    obtain ⟨v, rfl, hv, hb2⟩ := hp
    obtain ⟨s, p, rfl, _, _⟩ := hv
    have HB2 := Aside0.mk (below_then HB.out HB.out.size hb2)
    clear hb2 hcv
    go_wp2_with fail
    with_reducible refine (HF.out _ HB2.out).mono ?_
    rintro e w3 ⟨rfl, hb3⟩
    go_wp2_with fail
    go_ret
    exact ⟨rfl, hb3⟩
  | ok ex tt =>
    obtain ⟨q, s0', n1, s2', n3, n4, A1, n, c', rfl, _, _, _, hb2⟩ := hp
    have HPK := Aside0.mk (parsed_ok hr.symm).2
    have HX : Aside0 (isName x) := ⟨by have := HNM.out; simpa using this⟩
    have HB2 := Aside0.mk (below_then HB.out HB.out.size hb2)
    clear hb2 hr HNM
    go_wp2_with fail
    with_reducible refine (new_calls _).mono ?_
    rintro e w3 ⟨g, bv, rfl, hv, hg, hbv, hb3⟩
    have HB3 := Aside0.mk (below_then HB2.out HB2.out.size hb3)
    have HV3 := Aside0.mk hv
    have HG : Aside0 (w.heap.size ≤ bv) := ⟨by have := HB2.out.size; omega⟩
    clear hv hg hbv hb3
    go_wp2_with fail
    with_reducible refine (law_in_calls b A c _ (Kd.C_below HR.out HB3.out) (by have := HBS.out; omega) z0 HZ0.out).mono ?_
    rintro e w4 ⟨rfl, rfl⟩
    go_wp2_with fail
    obtain ⟨X1, t1, ht1, hg1⟩ := half_two 38 38 48 0 1 x b HX.out HPK.out (fun _ => rfl) (fun _ => rfl) rfl
    with_reducible refine (eval_str E _ z1 HS.out.1 (by have := HL.out.1; omega) (parsed_of hg1 ht1 HL.out.1) (ev_and0 X1 _ _) w w3 _ rfl _ rfl g bv HE.out HV3.out HB3.out HG.out).mono ?_
    rintro e w5 ⟨rfl, hv5, hb5⟩
    have HB5 := Aside0.mk hb5
    have HV5 := Aside0.mk hv5
    clear hb5 hv5 hg1 ht1
    go_wp2_with fail
    obtain ⟨X2, t2, ht2, hg2⟩ := half_two 124 124 49 1 0 x b HX.out HPK.out (fun _ => rfl) (fun _ => rfl) rfl
    with_reducible refine (eval_str E _ z2 HS.out.2.1 (by have := HL.out.2.1; omega) (parsed_of hg2 ht2 HL.out.2.1) (ev_or1 X2 _ _) w w5 _ rfl _ rfl g bv HE.out HV5.out HB5.out HG.out).mono ?_
    rintro e w6 ⟨rfl, hv6, hb6⟩
    have HB6 := Aside0.mk hb6
    have HV6 := Aside0.mk hv6
    clear hb6 hv6 hg2 ht2
    go_wp2_with fail
    obtain ⟨X3, t3, ht3, hg3⟩ := half_tern1 x b HX.out HPK.out
    with_reducible refine (eval_str E _ z3 HS.out.2.2.1 (by have := HL.out.2.2.1; omega) (parsed_of hg3 ht3 HL.out.2.2.1) (ev_tern1 X3 X3 _ _ _ _) w w6 _ rfl _ rfl g bv HE.out HV6.out HB6.out HG.out).mono ?_
    rintro e w7 ⟨rfl, hv7, hb7⟩
    have HB7 := Aside0.mk hb7
    have HV7 := Aside0.mk hv7
    clear hb7 hv7 hg3 ht3
    go_wp2_with fail
    obtain ⟨X4, p4, t4, ht4, hg4⟩ := half_tern0 x b HX.out HPK.out
    with_reducible refine (eval_str E _ z5 HS.out.2.2.2 (by have := HL.out.2.2.2; omega) (parsed_of hg4 ht4 HL.out.2.2.2) (ev_tern0 X4 _ _ _ _) w w7 _ rfl _ rfl g bv HE.out HV7.out HB7.out HG.out).mono ?_
    rintro e w8 ⟨rfl, hv8, hb8⟩
    have HB8 := Aside0.mk hb8
    have HV8 := Aside0.mk hv8
    clear hb8 hv8 hg4 ht4 hcv
    go_wp2_with fail
    with_reducible refine (list_calls g bv [] w8 HV8.out).mono ?_
    rintro e w9 ⟨v, rfl, _, hnil, hb9⟩
    obtain rfl := hnil rfl
    have HB9 := Aside0.mk (below_then HB8.out HB8.out.size hb9)
    clear hb9 hnil
    go_wp2_with fail
    with_reducible refine (HF.out _ HB9.out).mono ?_
    rintro e w10 ⟨rfl, hb10⟩
    go_wp2_with fail
    go_ret
    exact ⟨rfl, hb10⟩
end Go.Proofs.YtjllmamblkejjaaGreatDoor
end
