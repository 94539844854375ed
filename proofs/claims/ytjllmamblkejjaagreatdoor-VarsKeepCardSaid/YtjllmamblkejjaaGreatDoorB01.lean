/- A part of the proof: texts of ours, joined by a program, each in a section of its own; what each proves, and under what conditions, stands ahead of it. -/
import Derived.Test.YtjllmamblkejjaaGreatDoorBP
import Derived.Shelf.Strings.Fields
import Derived.Test.YtjllmamblkejjaaGreatDoorProg
import Derived.WalkKit
import Derived.LaidEql
import Derived.Stop.Asserts
import Derived.RowKitTokens
import Derived.WalkSmall
import Derived.Lib.LaidTab
import Derived.LoopTactic
import Derived.WalkLawsBesides
import Derived.Deep.RegionHeld3
import Derived.Deep.RegionWith
import Derived.RegionDies

section
/- Plain law: the parser of package arith as Lean functions on lists of bytes; no program in sight. No conditions. -/
namespace Go.Proofs.YtjllmamblkejjaaGreatDoor.Sp
abbrev Bs := List UInt8

def skip : Bs → Nat
  | [] => 0
  | c :: cs => if c = 32 ∨ c = 9 ∨ c = 10 then skip cs + 1 else 0

def digit (x : UInt8) : Nat :=
  if 65 ≤ x.toNat ∧ x.toNat ≤ 70 then x.toNat - 55 else if 97 ≤ x.toNat ∧ x.toNat ≤ 102 then x.toNat - 87
  else if 48 ≤ x.toNat ∧ x.toNat ≤ 57 then x.toNat - 48 else 16
def maxI : Nat := 9223372036854775807
def digitsGo (base : Nat) : Bs → Nat → Nat → Bool → Nat × Nat × Bool
  | [], n, k, o => (n, k, o)
  | c :: cs, n, k, o => if digit c < base then
      if o = true ∨ n > (maxI - digit c) / base then digitsGo base cs maxI (k + 1) true else digitsGo base cs (n * base + digit c) (k + 1) false
    else (n, k, o)
def digits (b : Bs) (base : Nat) : Nat × Nat × Bool := digitsGo base b 0 0 false
def const (b : Bs) : Nat × Nat × Bool :=
  match b with
  | [] => (0, 0, false)
  | c :: r => if c < 48 ∨ 57 < c then (0, 0, false) else if c ≠ 48 then digits b 10
    else match r with
      | d :: r' => if d = 120 ∨ d = 88 then
            (if (digits r' 16).2.1 > 0 then ((digits r' 16).1, (digits r' 16).2.1 + 2, (digits r' 16).2.2) else digits b 8)
          else digits b 8
      | [] => digits b 8
def letter (c : UInt8) : Bool := (97 ≤ c && c ≤ 122) || (65 ≤ c && c ≤ 90) || c == 95
def isDig (c : UInt8) : Bool := 48 ≤ c && c ≤ 57
def nameGo : Bs → Nat → Nat
  | [], i => i
  | c :: cs, i => if !letter c && (i == 0 || !isDig c) then i else nameGo cs (i + 1)
def name (b : Bs) : Nat := nameGo b 0

structure Tok where
  op : Bs
  pos : Nat
  fin : Nat
  num : Nat
  over : Bool
  name : Bs

def wNum : Bs := [110, 117, 109]
def wName : Bs := [110, 97, 109, 101]
def wNone : Bs := [110, 111, 110, 101]
def ops : List Bs := [[60, 60, 61], [62, 62, 61], [43, 61], [45, 61], [42, 61], [47, 61], [37, 61], [38, 61], [94, 61], [124, 61], [60, 60], [62, 62], [60, 61], [62, 61], [61, 61], [33, 61], [38, 38], [124, 124], [40], [41], [126], [33], [43], [45], [42], [47], [37], [60], [62], [38], [94], [124], [63], [58], [61]]

def tokAt (rest : Bs) (a : Nat) : Tok :=
  if rest = [] then ⟨[], a, a, 0, false, []⟩
  else if 0 < (const rest).2.1 then ⟨wNum, a, a + (const rest).2.1, (const rest).1, (const rest).2.2, []⟩
  else if 0 < name rest then ⟨wName, a, a + name rest, 0, false, rest.take (name rest)⟩
  else match ops.find? (fun o => o.isPrefixOf (rest.take 3)) with
    | some o => ⟨o, a, a + o.length, 0, false, []⟩
    | none => ⟨wNone, a, a, 0, false, []⟩
def next (b : Bs) (at_ : Nat) : Tok := tokAt (b.drop (at_ + skip (b.drop at_))) (at_ + skip (b.drop at_))

def assigns (op : Bs) : Bool :=
  if op = [60, 61] ∨ op = [62, 61] ∨ op = [61, 61] ∨ op = [33, 61] then false else op.getLast? == some 61

/-- How strong an operator between two operands is, and one more; 0: it is none. -/
def strength (op : Bs) : Nat :=
  if op = [124, 124] then 1 else if op = [38, 38] then 2 else if op = [124] then 3 else if op = [94] then 4 else if op = [38] then 5
  else if op = [61, 61] ∨ op = [33, 61] then 6 else if op = [60] ∨ op = [60, 61] ∨ op = [62] ∨ op = [62, 61] then 7
  else if op = [60, 60] ∨ op = [62, 62] then 8 else if op = [43] ∨ op = [45] then 9 else if op = [42] ∨ op = [47] ∨ op = [37] then 10 else 0

/-- Expressions. un: the operator as the program writes it (117 before '+' and '-'). -/
inductive Ex where
  | num (n pos : Nat)
  | name (x : Bs) (pos : Nat)
  | un (op : Bs) (pos : Nat) (e : Ex)
  | bin (op : Bs) (pos : Nat) (a b : Ex)
  | tern (pos : Nat) (c a b : Ex)
  | asg (op x : Bs) (pos apos : Nat) (e : Ex)

/-- What a reader comes to: a value and the token behind it; an error's code and place; too little fuel. -/
inductive Res (α : Type) where
  | ok (a : α) (t : Tok)
  | err (code pos : Nat)
  | out

def Res.bind {α β : Type} (r : Res α) (f : α → Tok → Res β) : Res β :=
  match r with
  | .ok a t => f a t
  | .err c p => .err c p
  | .out => .out

def bar {α : Type} (t : Tok) : Res α := .err (if t.over then 6 else 3) t.pos

def constant (b : Bs) (t : Tok) : Res Ex :=
  if t.over then .err 6 t.pos
  else match b.drop t.fin with
    | [] => .ok (.num t.num t.pos) (next b t.fin)
    | c :: cs => if 0 < name (c :: cs) ∨ isDig c = true then .err 3 t.fin else .ok (.num t.num t.pos) (next b t.fin)

mutual
def expr (b : Bs) : Nat → Tok → Res Ex
  | 0, _ => .out
  | f + 1, t =>
    if t.op = wName ∧ assigns (next b t.fin).op = true then
      (expr b f (next b (next b t.fin).fin)).bind fun e t' => .ok (.asg (next b t.fin).op t.name t.pos (next b t.fin).pos e) t'
    else cond b f t
def cond (b : Bs) : Nat → Tok → Res Ex
  | 0, _ => .out
  | f + 1, t => (bin b f 0 t).bind fun e t1 =>
    if t1.op = [63] then
      (expr b f (next b t1.fin)).bind fun a t2 =>
        if t2.op = [58] then (cond b f (next b t2.fin)).bind fun c t3 => .ok (.tern t1.pos e a c) t3 else bar t2
    else .ok e t1
def bin (b : Bs) : Nat → Nat → Tok → Res Ex
  | 0, _, _ => .out
  | f + 1, least, t => (operand b f t).bind fun e t1 => loop b f least e t1
def loop (b : Bs) : Nat → Nat → Ex → Tok → Res Ex
  | 0, _, _, _ => .out
  | f + 1, least, e, t =>
    if strength t.op < least + 1 then .ok e t
    else (bin b f (strength t.op) (next b t.fin)).bind fun k t' => loop b f least (.bin t.op t.pos e k) t'
def operand (b : Bs) : Nat → Tok → Res Ex
  | 0, _ => .out
  | f + 1, t =>
    if t.op = [43] ∨ t.op = [45] then (operand b f (next b t.fin)).bind fun e t' => .ok (.un (117 :: t.op) t.pos e) t'
    else if t.op = [33] ∨ t.op = [126] then (operand b f (next b t.fin)).bind fun e t' => .ok (.un t.op t.pos e) t'
    else if t.op = wNum then constant b t
    else if t.op = wName then .ok (.name t.name t.pos) (next b t.fin)
    else if t.op = [40] then (expr b f (next b t.fin)).bind fun e t' => if t'.op = [41] then .ok e (next b t'.fin) else bar t'
    else bar t
end

/-- The whole text: the tree, or the error. -/
def parse (b : Bs) (f : Nat) : Res Ex :=
  (expr b f (next b 0)).bind fun e t => if t.op = [] then .ok e t else bar t
end Go.Proofs.YtjllmamblkejjaaGreatDoor.Sp
end

/- The memory of package arith's reader, as predicates on worlds; contracts of package scan in the spec's words. No conditions. -/
section
set_option linter.unusedVariables false
namespace Go.Proofs.YtjllmamblkejjaaGreatDoor
open Go.RowKit Go.Proofs.YtjllmamblkejjaaGreatDoorW.PrintWords Go.Proofs.YtjllmamblkejjaaGreatDoorW.PrintLast Go.Proofs.YtjllmamblkejjaaGreatDoorW.PrintMore
open PQA Sp

def mk (l : Bs) : ByteArray := ⟨l.toArray⟩
def ints (l : Bs) : List Int := l.map fun c => (c.toNat : Int)
theorem ints_length (l : Bs) : (ints l).length = l.length := by simp [ints]
theorem ints_drop (l : Bs) (n : Nat) : (ints l).drop n = ints (l.drop n) := by simp [ints, List.map_drop]
theorem ints_take (l : Bs) (n : Nat) : (ints l).take n = ints (l.take n) := by simp [ints, List.map_take]
theorem mk_toList (l : Bs) : (mk l).toList = l := by
  show (mk l).toList = l
  have : (mk l).toList = (mk l).data.toList := by
    rw [ByteArray.toList_eq]
  rw [this]; rfl
theorem strOf_ints (l : Bs) : strOfNums (ints l) = mk l := by
  simp [strOfNums, ints, mk, Function.comp_def]

theorem byte_eq (z n : UInt8) : ((z.toNat : Int) == (n.toNat : Int)) = decide (z = n) := by
  rw [Bool.eq_iff_iff, beq_iff_eq, decide_eq_true_iff, ← UInt8.toNat_inj]
  omega
/-- A slice of bytes that reads as the list l. -/
abbrev Rb (w : World) (A : Option Addr) (l : Bs) : Prop := Kd.C (Kd.int .u8) w A l.length (ints l)

/-- Behind the token t: the reader at block g over the text b, which lies below w0. -/
def IsRd (w0 W : World) (g : Nat) (b : Bs) (t : Tok) : Prop := ∃ A c, W.heap[g]? = some (.cells #[.slice A b.length c, .string (mk t.op), .int .i64 t.pos, .int .i64 t.fin, .int .i64 t.num, .bool t.over, .string (mk t.name)] 77 (0, 0)) ∧ w0.heap.size ≤ g ∧ b.length ≤ c ∧ Rb w0 A b
def tokV (t : Tok) : Value := .agg #[.string (mk t.op), .int .i64 t.pos, .int .i64 t.fin, .int .i64 t.num, .bool t.over, .string (mk t.name)]

theorem rb_byte {w : World} {A : Option Addr} {l : Bs} (h : Rb w A l) (j : Nat) (hj : j < l.length) : ∃ ad, A = some ad ∧ w.cell? (ad.add j) = some (.int .u8 (l[j].toNat : Int)) := by
  obtain ⟨ad, e, hc⟩ := Kd.at_int h (j : Int) (by omega) (by omega)
  refine ⟨ad, e, ?_⟩
  rw [Int.toNat_natCast] at hc
  rw [hc]
  simp [rd, ints, hj]

theorem rest_cut (A : Option Addr) (c : Nat) (b : Bs) (a : Nat) (ha : a ≤ b.length) (hc : b.length ≤ c) : ∃ (rest : Bs) (A' : Option Addr), rest = b.drop a ∧
    (∀ W : World, (Instr.slice 22 (.slice A b.length c) (some (.int .i64 (a : Int))) none none).run Tryz.prog W = .ok (.slice A' rest.length (c - a)) W) ∧
    (∀ w : World, Rb w A b → Rb w A' rest) ∧ rest.length ≤ c - a := by
  obtain ⟨i, hi, _, hsz, _⟩ := info_parts info5
  obtain ⟨A', h1, h2, h3⟩ := print_drop_of (P := Tryz.prog) (Value.int .u8) 0 22 5 .i64 Tryz.underlying22 hi hsz A c (ints b) a (by omega) (by rw [ints_length]; omega) (by rw [ints_length]; exact hc)
  rw [Int.toNat_natCast, ints_drop, ints_length] at h1 h2 h3
  refine ⟨b.drop a, A', rfl, fun W => ?_, fun w h => ?_, h3⟩
  · have := h1 W
    rw [ints_length] at this
    exact this
  · have h' := h2 w (Kd.reads_of_C (h1 := fun _ => rfl) h)
    exact Kd.C_of_reads (h1 := fun _ => rfl) (by first | exact h' | (rw [← ints_length]; exact h'))

theorem take_cut (A : Option Addr) (c : Nat) (b : Bs) (a : Nat) (ha : a ≤ b.length) (hc : b.length ≤ c) : ∃ (front : Bs), front = b.take a ∧
    (∀ W : World, (Instr.slice 22 (.slice A b.length c) none (some (.int .i64 (a : Int))) none).run Tryz.prog W = .ok (.slice A front.length c) W) ∧
    (∀ w : World, Rb w A b → Rb w A front) := by
  obtain ⟨i, hi, _, hsz, _⟩ := info_parts info5
  obtain ⟨h1, h2, h3⟩ := print_take_of (P := Tryz.prog) (Value.int .u8) 0 22 5 .i64 Tryz.underlying22 hi hsz A c (ints b) a (by omega) (by rw [ints_length]; omega) (by rw [ints_length]; exact hc)
  rw [Int.toNat_natCast, ints_take, ints_length] at h1 h2
  refine ⟨b.take a, rfl, fun W => ?_, fun w h => ?_⟩
  · have := h1 W
    rw [ints_length] at this
    exact this
  · have h' := h2 w (Kd.reads_of_C (h1 := fun _ => rfl) h)
    exact Kd.C_of_reads (h1 := fun _ => rfl) (by first | exact h' | (rw [← ints_length]; exact h'))
theorem string_of (w : World) (A : Option Addr) (c : Nat) (l : Bs) (h : Rb w A l) : (convert 22 9 (.slice A l.length c)).run Tryz.prog w = .ok (.string (mk l)) w := by
  rw [Kd.C_string Tryz.underlying22 Tryz.underlying5 Tryz.underlying9 h, strOf_ints]
theorem below_put {w W : World} (h : Below w.heap.size w W) (b o : Nat) (hb : w.heap.size ≤ b) (u : Value) : Below w.heap.size w (W.setCell ⟨b, o, none⟩ u) := h.setCell hb u
theorem new0 (w : World) (o1 o2 : Obj) (n : Nat) : (((w.alloc o1).alloc o2).drewN n).heap[w.heap.size]? = some o1 :=
  (Below.heap_alloc (w.alloc o1) o2 _ (by simp)).trans (heap_alloc_new w o1)
theorem new1 (w : World) (o1 o2 : Obj) (n : Nat) : (((w.alloc o1).alloc o2).drewN n).heap[w.heap.size + 1]? = some o2 := by
  have := heap_alloc_new (w.alloc o1) o2
  simp at this
  simpa using this
end Go.Proofs.YtjllmamblkejjaaGreatDoor
end

/-
  strings.Fields at this dump, by the shelf (its plain mode): the fields of an ASCII text. Conditions: the text is ASCII, the table asciiSpace is as the library lays it.
-/
section
namespace Go.Proofs
open Go.Shelf
def Tryz.lays157_ren : Go.Shelf.Ren := ⟨fun | 157 => 139 | 229 => 147 | 199 => 148 | 261 => 150 | 311 => 151 | 312 => 152 | n => n, fun | 9 => 9 | 31 => 45 | 3 => 3 | 5 => 5 | 4 => 4 | 119 => 209 | 0 => 0 | 40 => 211 | 152 => 215 | 21 => 21 | 154 => 217 | 51 => 192 | 141 => 219 | 196 => 223 | 193 => 220 | 198 => 226 | 49 => 224 | 194 => 221 | 201 => 229 | 226 => 231 | 46 => 161 | 227 => 232 | n => n, fun | 0 => 22 | 6 => 23 | n => n⟩
theorem Tryz.lays157 : Go.Proofs.Lays.n157 Tryz.prog Tryz.lays157_ren := {
  mixed := by kernel_rfl
  f157 := Tryz.func139.trans (congrArg some (by kernel_rfl))
  f199 := Tryz.func148.trans (congrArg some (by kernel_rfl))
  f229 := Tryz.func147.trans (congrArg some (by kernel_rfl))
  f261 := Tryz.func150.trans (congrArg some (by kernel_rfl))
  f311 := Tryz.func151.trans (congrArg some (by kernel_rfl))
  f312 := Tryz.func152.trans (congrArg some (by kernel_rfl))
  t0 := Tryz.underlying0
  a0 := Tryz.isAgg0
  z0 := Tryz.sizeOf0
  v0 := Tryz.zeroValue0
  t3 := Tryz.underlying3
  a3 := Tryz.isAgg3
  z3 := Tryz.sizeOf3
  v3 := Tryz.zeroValue3
  t4 := Tryz.underlying4
  a4 := Tryz.isAgg4
  z4 := Tryz.sizeOf4
  v4 := Tryz.zeroValue4
  t5 := Tryz.underlying5
  a5 := Tryz.isAgg5
  z5 := Tryz.sizeOf5
  v5 := Tryz.zeroValue5
  t9 := Tryz.underlying9
  a9 := Tryz.isAgg9
  z9 := Tryz.sizeOf9
  v9 := Tryz.zeroValue9
  t21 := Tryz.underlying21
  a21 := Tryz.isAgg21
  z21 := Tryz.sizeOf21
  v21 := Tryz.zeroValue21
  t31 := Tryz.underlying45
  a31 := Tryz.isAgg45
  z31 := Tryz.sizeOf45
  v31 := Tryz.zeroValue45
  t40 := Tryz.underlying211
  a40 := Tryz.isAgg211
  z40 := Tryz.sizeOf211
  v40 := Tryz.zeroValue211
  t46 := Tryz.underlying161
  a46 := Tryz.isAgg161
  z46 := Tryz.sizeOf161
  v46 := Tryz.zeroValue161
  t49 := Tryz.underlying224
  a49 := Tryz.isAgg224
  z49 := Tryz.sizeOf224
  v49 := Tryz.zeroValue224
  t51 := Tryz.underlying192
  a51 := Tryz.isAgg192
  z51 := Tryz.sizeOf192
  v51 := Tryz.zeroValue192
  t119 := Tryz.underlying209
  a119 := Tryz.isAgg209
  z119 := Tryz.sizeOf209
  t141 := Tryz.underlying219
  a141 := Tryz.isAgg219
  z141 := Tryz.sizeOf219
  v141 := Tryz.zeroValue219
  t152 := Tryz.underlying215
  a152 := Tryz.isAgg215
  z152 := Tryz.sizeOf215
  v152 := Tryz.zeroValue215
  t154 := Tryz.underlying217
  a154 := Tryz.isAgg217
  z154 := Tryz.sizeOf217
  v154 := Tryz.zeroValue217
  t193 := Tryz.underlying220
  a193 := Tryz.isAgg220
  z193 := Tryz.sizeOf220
  v193 := Tryz.zeroValue220
  t194 := Tryz.underlying221
  a194 := Tryz.isAgg221
  z194 := Tryz.sizeOf221
  v194 := Tryz.zeroValue221
  t196 := Tryz.underlying223
  a196 := Tryz.isAgg223
  z196 := Tryz.sizeOf223
  v196 := Tryz.zeroValue223
  t198 := Tryz.underlying226
  a198 := Tryz.isAgg226
  z198 := Tryz.sizeOf226
  v198 := Tryz.zeroValue226
  t201 := Tryz.underlying229
  a201 := Tryz.isAgg229
  z201 := Tryz.sizeOf229
  v201 := Tryz.zeroValue229
  t226 := Tryz.underlying231
  a226 := Tryz.isAgg231
  z226 := Tryz.sizeOf231
  v226 := Tryz.zeroValue231
  t227 := Tryz.underlying232
  a227 := Tryz.isAgg232
  z227 := Tryz.sizeOf232
  v227 := Tryz.zeroValue232
  g0 := by kernel_rfl
  g6 := by kernel_rfl }
open Go.RowKit Go.Lib in
/-- strings.Fields, the table by 'Lib.TabIs' (as strings.TrimSpace's contract). 'hg': the table's number, by its name: at a dump 'by kernel_rfl'. (LAID: no walk: one application.) -/
theorem Tryz.strings_Fields (s : ByteArray) (w : World) (hs : s.size < 4294967281) (hascii : ∀ (j : Nat) b, s.data.toList[j]? = some b → b.toNat < 128) (htab : Lib.TabIs Tryz.prog w "strings.asciiSpace" .u8 Lib.asciiSpaceTab) :
    Calls Tryz.prog 139 #[.string s] w fun e w' =>
      e = .returned (.slice (some ⟨w.heap.size, 0, none⟩) (Lib.fields s.data.toList).length (Lib.fields s.data.toList).length) ∧ w' = w.alloc (.cells ((Lib.fields s.data.toList).map fun l => Value.string ⟨l.toArray⟩).toArray 9) := Any.strings_Fields Tryz.lays157 (by kernel_rfl) (by kernel_rfl) s w hs hascii htab
end Go.Proofs
end

/- Package fault: what Of, At, In, Is and Tell come to at an error of this program's own make: a sentinel, in a place, in a language. No conditions. -/
section
set_option linter.unusedVariables false
set_option linter.unusedSimpArgs false
namespace Go.Proofs.YtjllmamblkejjaaGreatDoor
open Go.RowKit Go.Extern.Stop Go.Stop Go.Extern Go.Proofs.YtjllmamblkejjaaGreatDoorW.PrintWords

/-- The number of the variable that holds the error of a code. -/
def gl : Nat → Nat
  | 1 => 0 | 2 => 1 | 3 => 2 | 4 => 3 | 5 => 4
  | 6 => 5 | 7 => 6 | 8 => 7 | 9 => 8 | 10 => 9
  | 11 => 11 | 12 => 12 | 13 => 13 | 14 => 14 | 15 => 15
  | 16 => 16 | 17 => 17 | 18 => 18 | 19 => 19 | 20 => 20
  | _ => 21

/-- The package-level variables that the errors lean on. -/
structure Env (E : Nat → Addr) (w : World) : Prop where
  cell : ∀ k, 1 ≤ k → k ≤ 21 → w.cell? ⟨gl k, 0, none⟩ = some (.iface 233 (.pointer (some (E k))))
  row : ∀ k, 1 ≤ k → k ≤ 21 → ∃ cs t, w.heap[(E k).block]? = some (.cells cs t (0, 0))
  inj : ∀ k j, 1 ≤ k → k ≤ 21 → 1 ≤ j → j ≤ 21 → k ≠ j → E k ≠ E j
  et : w.cell? ⟨10, 0, none⟩ = some (.iface 165 (.agg #[.pointer (some ⟨25, 27, none⟩)]))
  tab : Lib.TabIs Tryz.prog w "strings.asciiSpace" .u8 Lib.asciiSpaceTab

theorem Tryz.gSpace : Tryz.prog.globalNamed "strings.asciiSpace" = some 22 := by kernel_rfl
theorem Env.keep {E : Nat → Addr} {w w' : World} (h : Env E w) (hk : ∀ k, k < w.heap.size → w'.heap[k]? = w.heap[k]?) : Env E w' := by
  have hc : ∀ (p : Addr) v, w.cell? p = some v → w'.cell? p = some v := fun p v hv => (World.cell?_of_block (w := w) (hk p.block (World.block_lt_of_cell? w p hv))).trans hv
  exact ⟨fun k h1 h2 => hc _ _ (h.cell k h1 h2), fun k h1 h2 => by
    obtain ⟨cs, t, hr⟩ := h.row k h1 h2
    exact ⟨cs, t, (hk _ (blk_lt hr)).trans hr⟩, h.inj, hc _ _ h.et, by
      have ht := h.tab
      unfold Lib.TabIs World.var? at ht ⊢
      simp only [Tryz.gSpace, Option.bind_some] at ht ⊢
      rcases Nat.lt_or_ge 22 w.heap.size with hlt | hge
      · rw [hk _ hlt]; exact ht
      · rw [Array.getElem?_eq_none hge] at ht; simp at ht⟩
theorem Env.below {E : Nat → Addr} {w w' : World} (h : Env E w) (hb : Below w.heap.size w w') : Env E w' := h.keep hb.block

set_option maxHeartbeats 4000000 in
theorem of_calls (E : Nat → Addr) (k : Nat) (w : World) (hE : Env E w) (h1 : 1 ≤ k) (h2 : k ≤ 21) :
    Calls Tryz.prog 36 #[.int .i64 (k : Int)] w fun e w' => e = .returned (.iface 233 (.pointer (some (E k)))) ∧ w = w' := by
  have hc := hE.cell k h1 h2
  clear hE
  have hk : k = 1 ∨ k = 2 ∨ k = 3 ∨ k = 4 ∨ k = 5 ∨ k = 6 ∨ k = 7 ∨ k = 8 ∨ k = 9 ∨ k = 10 ∨ k = 11 ∨ k = 12 ∨ k = 13 ∨ k = 14 ∨ k = 15 ∨ k = 16 ∨ k = 17 ∨ k = 18 ∨ k = 19 ∨ k = 20 ∨ k = 21 := by omega
  clear h1 h2
  rcases hk with rfl | rfl | rfl | rfl | rfl | rfl | rfl | rfl | rfl | rfl | rfl | rfl | rfl | rfl | rfl | rfl | rfl | rfl | rfl | rfl | rfl
  all_goals
    simp only [gl] at hc
    go_enter Tryz.func36, Tryz.ntmps36
    go_wp2
    go_ret
    exact ⟨rfl, rfl⟩
theorem at_calls (u : TypeId) (v : Value) (pos : Int) (w : World) :
    Calls Tryz.prog 35 #[.iface u v, .int .i64 pos] w fun e w' => e = .returned (.iface 94 (.pointer (some ⟨w.heap.size, 0, none⟩))) ∧ w.alloc (.cells #[.iface u v, .int .i64 pos] 98) = w' := by
  go_enter Tryz.func35, Tryz.ntmps35
  go_wp2
  go_ret
  exact ⟨rfl, rfl⟩
theorem in_calls (u : TypeId) (v : Value) (lang : Int) (w : World) :
    Calls Tryz.prog 34 #[.iface u v, .int .i64 lang] w fun e w' => e = .returned (.iface 99 (.pointer (some ⟨w.heap.size, 0, none⟩))) ∧ w.alloc (.cells #[.iface u v, .int .i64 lang] 102) = w' := by
  go_enter Tryz.func34, Tryz.ntmps34
  go_wp2
  go_ret
  exact ⟨rfl, rfl⟩

/-- An error of the program's make: a sentinel, in a place, in a language. -/
def ErrV (E : Nat → Addr) (w : World) (v : Value) (code pos lang : Nat) : Prop := ∃ s p : Nat, v = .iface 99 (.pointer (some ⟨s, 0, none⟩)) ∧
  w.heap[s]? = some (.cells #[.iface 94 (.pointer (some ⟨p, 0, none⟩)), .int .i64 (lang : Int)] 102 (0, 0)) ∧
  w.heap[p]? = some (.cells #[.iface 233 (.pointer (some (E code))), .int .i64 (pos : Int)] 98 (0, 0))
theorem ErrV.keep {E : Nat → Addr} {w w' : World} {v : Value} {code pos lang : Nat} (h : ErrV E w v code pos lang) (hk : ∀ k, k < w.heap.size → w'.heap[k]? = w.heap[k]?) : ErrV E w' v code pos lang := by
  obtain ⟨s, p, hv, hs, hp⟩ := h
  exact ⟨s, p, hv, (hk s (blk_lt hs)).trans hs, (hk p (blk_lt hp)).trans hp⟩
theorem ErrV.below {E : Nat → Addr} {w w' : World} {v : Value} {code pos lang : Nat} (h : ErrV E w v code pos lang) (hb : Below w.heap.size w w') : ErrV E w' v code pos lang := h.keep hb.block
theorem ErrV.made (E : Nat → Addr) (w : World) (code pos lang : Nat) : ErrV E ((w.alloc (.cells #[.iface 233 (.pointer (some (E code))), .int .i64 (pos : Int)] 98)).alloc (.cells #[.iface 94 (.pointer (some ⟨w.heap.size, 0, none⟩)), .int .i64 (lang : Int)] 102)) (.iface 99 (.pointer (some ⟨w.heap.size + 1, 0, none⟩))) code pos lang :=
  ⟨_, _, rfl, new1 w _ _ 0, new0 w _ _ 0⟩

/-! ### errors.Is -/
theorem Tryz.isTypeOf (v : Value) (w : World) : (Extern.ReflectliteType.typeOf #[.iface 233 v]).run Tryz.prog w = .ok (.iface 165 (.agg #[.pointer (some ⟨25, 233, none⟩)])) w := by kernel_rfl
def cmpE : Array Value → Sem Value := Extern.ReflectliteType.method fun t => do Extern.Rtype.noPackHeld "Comparable" t; pure (.bool (← typeInfo t).comparable)
theorem Tryz.isComparable (w : World) : (cmpE #[.agg #[.pointer (some ⟨25, 233, none⟩)]]).run Tryz.prog w = .ok (.bool true) w := by kernel_rfl
theorem Tryz.isMethodComparable (v : Value) (w : World) : (Go.method 363 165 v "Comparable").run Tryz.prog w = .ok (179, v) w := by kernel_rfl
theorem Tryz.isComp : (Tryz.prog.info? 233).map (·.comparable) = some true := by kernel_rfl
theorem Tryz.isSize : (Tryz.prog.info? 252).map (·.size) = some 1 := by kernel_rfl
theorem Tryz.noIsE (v : Value) (xT : TypeId) (w : World) : (Instr.typeAssert (.iface 233 v) xT 194 true).run Tryz.prog w = .ok (.tuple #[.nilIface, .bool false]) w := run_typeAssert_lacksB Tryz.underlying194 (by kernel_rfl) (by kernel_rfl) v xT w
theorem Tryz.noUnwrapE (v : Value) (xT : TypeId) (w : World) : (Instr.typeAssert (.iface 233 v) xT 172 true).run Tryz.prog w = .ok (.tuple #[.nilIface, .bool false]) w := run_typeAssert_lacksB Tryz.underlying172 (by kernel_rfl) (by kernel_rfl) v xT w
theorem Tryz.noUnwrapsE (v : Value) (xT : TypeId) (w : World) : (Instr.typeAssert (.iface 233 v) xT 174 true).run Tryz.prog w = .ok (.tuple #[.nilIface, .bool false]) w := run_typeAssert_lacksB Tryz.underlying174 (by kernel_rfl) (by kernel_rfl) v xT w
theorem Tryz.noIsP (v : Value) (xT : TypeId) (w : World) : (Instr.typeAssert (.iface 94 v) xT 194 true).run Tryz.prog w = .ok (.tuple #[.nilIface, .bool false]) w := run_typeAssert_lacksB Tryz.underlying194 (by kernel_rfl) (by kernel_rfl) v xT w
theorem Tryz.noIsS (v : Value) (xT : TypeId) (w : World) : (Instr.typeAssert (.iface 99 v) xT 194 true).run Tryz.prog w = .ok (.tuple #[.nilIface, .bool false]) w := run_typeAssert_lacksB Tryz.underlying194 (by kernel_rfl) (by kernel_rfl) v xT w
theorem Tryz.hasUnwrapP (v : Value) (xT : TypeId) (w : World) : (Instr.typeAssert (.iface 94 v) xT 172 true).run Tryz.prog w = .ok (.tuple #[.iface 94 v, .bool true]) w := run_typeAssert_hasB Tryz.underlying172 (by kernel_rfl) v xT w
theorem Tryz.hasUnwrapS (v : Value) (xT : TypeId) (w : World) : (Instr.typeAssert (.iface 99 v) xT 172 true).run Tryz.prog w = .ok (.tuple #[.iface 99 v, .bool true]) w := run_typeAssert_hasB Tryz.underlying172 (by kernel_rfl) v xT w
theorem Tryz.methodUnwrapP (v : Value) (w : World) : (Go.method 363 94 v "Unwrap").run Tryz.prog w = .ok (171, v) w := by kernel_rfl
theorem Tryz.methodUnwrapS (v : Value) (w : World) : (Go.method 363 99 v "Unwrap").run Tryz.prog w = .ok (173, v) w := by kernel_rfl

set_option maxHeartbeats 4000000 in
/-- errors.Is of an error and a sentinel: whether it is the one inside. -/
theorem errors_is (E : Nat → Addr) (w : World) (hE : Env E w) (v : Value) (code pos lang j : Nat) (hv : ErrV E w v code pos lang) (h1 : 1 ≤ code) (h2 : code ≤ 21) (j1 : 1 ≤ j) (j2 : j ≤ 21) :
    Calls Tryz.prog 70 #[v, .iface 233 (.pointer (some (E j)))] w fun e w' => e = .returned (.bool (decide (j = code))) ∧ w = w' := by
  obtain ⟨s, p, rfl, hs, hp⟩ := hv
  obtain ⟨i, hi, hcmp⟩ := Option.map_eq_some_iff.1 Tryz.isComp
  obtain ⟨jj, hj, hjs⟩ := Option.map_eq_some_iff.1 Tryz.isSize
  have h8 := @run_callFunc_extern Tryz.prog 103 _ Extern.ReflectliteType.typeOf Tryz.func103 (by kernel_rfl) (by kernel_rfl) (by kernel_rfl) (by kernel_rfl)
  have h32 := @run_callFunc_extern Tryz.prog 179 _ cmpE Tryz.func179 (by kernel_rfl) (by kernel_rfl) (by kernel_rfl) (by kernel_rfl)
  have tT := Tryz.isTypeOf
  have cT := Tryz.isComparable
  have mR := Tryz.isMethodComparable
  have nE := Tryz.noIsE
  have uE := Tryz.noUnwrapE
  have vE := Tryz.noUnwrapsE
  have nP := Tryz.noIsP
  have nS := Tryz.noIsS
  have uP := Tryz.hasUnwrapP
  have uS := Tryz.hasUnwrapS
  have mP := Tryz.methodUnwrapP
  have mS := Tryz.methodUnwrapS
  have hs0 : w.cell? ⟨s, 0, none⟩ = some (.iface 94 (.pointer (some ⟨p, 0, none⟩))) := (blk_cell hs 0).trans rfl
  have hp0 : w.cell? ⟨p, 0, none⟩ = some (.iface 233 (.pointer (some (E code)))) := (blk_cell hp 0).trans rfl
  have hty1 := run_eql_iface_types (P := Tryz.prog) 99 233 (.pointer (some ⟨s, 0, none⟩)) (.pointer (some (E j))) Tryz.underlying27 (by decide) w
  have hty2 := run_eql_iface_types (P := Tryz.prog) 94 233 (.pointer (some ⟨p, 0, none⟩)) (.pointer (some (E j))) Tryz.underlying27 (by decide) w
  obtain ⟨ca, ta, ha⟩ := hE.row code h1 h2
  obtain ⟨cb, tb, hb⟩ := hE.row j j1 j2
  have hinj := hE.inj code j h1 h2 j1 j2
  clear hE hs hp
  by_cases he : j = code
  · subst he
    have heq := run_eql_iface_ptr_same (P := Tryz.prog) w (E j) Tryz.underlying27 Tryz.underlying233 hi hcmp hj
    clear hinj ha hb hj hjs hi hcmp
    go_enter Tryz.func70, Tryz.ntmps70
    go_wp2
    refine wp_loop_rounds 3 ?_
    rw [rounds_succ]
    go_wp2
    rw [rounds_succ]
    go_wp2
    rw [rounds_succ]
    go_wp2
    go_ret
    exact ⟨by simp, rfl⟩
  · have hne : E code ≠ E j := hinj (fun h => he h.symm)
    have heq := run_eql_iface_ptr_other (P := Tryz.prog) w Tryz.underlying27 Tryz.underlying233 hi hcmp hj (by rw [hjs]; decide) hne ha hb
    clear hinj ha hb hj hjs hi hcmp
    have HE := Aside0.mk he
    clear he hne
    go_enter Tryz.func70, Tryz.ntmps70
    go_wp2
    refine wp_loop_rounds 3 ?_
    rw [rounds_succ]
    go_wp2
    rw [rounds_succ]
    go_wp2
    rw [rounds_succ]
    go_wp2
    go_ret
    exact ⟨by simp [HE.out], rfl⟩
end Go.Proofs.YtjllmamblkejjaaGreatDoor
end

/- Plain laws: the printed functions of package scan come to the spec's. Conditions: the text shorter than 2^62. -/
section
set_option linter.unusedVariables false
set_option linter.unusedSimpArgs false
namespace Go.Proofs.YtjllmamblkejjaaGreatDoor
open Go.RowKit Go.Proofs.YtjllmamblkejjaaGreatDoorW.PrintWords
open PQA Sp

theorem rd_at (front cs : Bs) (c : UInt8) : rd (ints (front ++ c :: cs)) (front.length : Int) = (c.toNat : Int) := by
  simp [rd, ints]
theorem len_at (front cs : Bs) (c : UInt8) : (front.length : Int) < ((ints (front ++ c :: cs)).length : Int) := by
  simp [ints]; omega
theorem u8_lt (c : UInt8) : c.toNat ≤ 255 := by have := c.toNat_lt; omega
theorem letter_dec (c : UInt8) : letter c = decide ((97 ≤ c.toNat ∧ c.toNat ≤ 122) ∨ (65 ≤ c.toNat ∧ c.toNat ≤ 90) ∨ c.toNat = 95) := by
  have h : (c == 95) = decide (c.toNat = 95) := by
    rw [Bool.eq_iff_iff]; simp [← UInt8.toNat_inj]
  rw [letter, h, Bool.eq_iff_iff]
  simp [UInt8.le_iff_toNat_le, or_assoc]
theorem isDig_dec (c : UInt8) : isDig c = decide (48 ≤ c.toNat ∧ c.toNat ≤ 57) := by
  rw [isDig, Bool.eq_iff_iff]; simp [UInt8.le_iff_toNat_le]

theorem wrap_nat (n : Nat) (h : n ≤ 9223372036854775807) : wrap64 (n : Int) = (n : Int) := by unfold wrap64; omega
theorem wrap_succ (n : Nat) (h : n < 9223372036854775807) : wrap64 ((n : Int) + 1) = ((n + 1 : Nat) : Int) := by unfold wrap64; omega

theorem name_tree {α : Type} (v i : Int) (A B : α) :
    (if v ≥ 97 then (if v ≤ 122 then A else (if v ≥ 65 then (if v ≤ 90 then A else (if (v = 95) then A else (if i = 0 then B else (if v < 48 then B else (if v > 57 then B else A))))) else (if (v = 95) then A else (if i = 0 then B else (if v < 48 then B else (if v > 57 then B else A)))))) else (if v ≥ 65 then (if v ≤ 90 then A else (if (v = 95) then A else (if i = 0 then B else (if v < 48 then B else (if v > 57 then B else A))))) else (if (v = 95) then A else (if i = 0 then B else (if v < 48 then B else (if v > 57 then B else A)))))) =
    if (97 ≤ v ∧ v ≤ 122) ∨ (65 ≤ v ∧ v ≤ 90) ∨ v = 95 ∨ (i ≠ 0 ∧ 48 ≤ v ∧ v ≤ 57) then A else B := by
  repeat' split
  all_goals first | rfl | (exfalso; omega)
theorem name_loop (b : Bs) (hb : b.length ≤ 4611686018427387904) : ∀ (cs front : Bs) (k : Nat), b = front ++ cs → cs.length < k → scan_Name.l0 k (ints b) (ints b) (b.length : Int) (front.length : Int) = some (nameGo cs front.length : Int)
  | [], front, k, hf, hk => by
    obtain ⟨k, rfl⟩ : ∃ j, k = j + 1 := ⟨k - 1, by simp at hk; omega⟩
    rw [scan_Name.l0, if_neg (by rw [hf]; simp), nameGo]
    rw [hf]; simp [ints]
  | c :: cs, front, k, hf, hk => by
    obtain ⟨k, rfl⟩ : ∃ j, k = j + 1 := ⟨k - 1, by simp at hk; omega⟩
    have hv := u8_lt c
    have ih := name_loop b hb cs (front ++ [c]) k (by rw [hf]; simp) (by simp at hk; omega)
    have hlen : (front.length : Int) < (b.length : Int) := by rw [hf]; simp; omega
    have hlen2 : (front.length : Int) < ((ints b).length : Int) := by rw [hf]; exact len_at _ _ _
    have hrd : rd (ints b) (front.length : Int) = (c.toNat : Int) := by rw [hf]; exact rd_at _ _ _
    have hw : wrap64 ((front.length : Int) + 1) = (((front ++ [c]).length : Nat) : Int) := by
      rw [wrap_succ _ (by have := congrArg List.length hf; simp at this; omega)]; simp
    rw [scan_Name.l0, if_pos hlen, if_pos (by omega), if_pos hlen2, hrd, hw, ih, name_tree, nameGo, letter_dec, isDig_dec]
    rw [show (front ++ [c]).length = front.length + 1 by simp]
    by_cases h1 : (97 ≤ c.toNat ∧ c.toNat ≤ 122) ∨ (65 ≤ c.toNat ∧ c.toNat ≤ 90) ∨ c.toNat = 95
    · rw [if_pos (by omega), if_neg (by rw [decide_eq_true h1]; simp)]
    · by_cases h2 : front.length = 0 ∨ ¬ (48 ≤ c.toNat ∧ c.toNat ≤ 57)
      · rw [if_neg (by omega), if_pos]
        rw [decide_eq_false h1]
        rcases h2 with h2 | h2
        · simp [h2]
        · rw [decide_eq_false h2]; simp
      · rw [if_pos (by omega), if_neg]
        rw [decide_eq_false h1, decide_eq_true (by omega : 48 ≤ c.toNat ∧ c.toNat ≤ 57)]
        have : ¬ front.length = 0 := fun h => h2 (.inl h)
        simp [this]
theorem name_eq (l : Bs) (h : l.length ≤ 4611686018427387904) : ∃ k, scan_Name.f k (ints l) = some (name l : Int) := by
  refine ⟨l.length + 1, ?_⟩
  have := name_loop l h l [] (l.length + 1) rfl (by omega)
  unfold scan_Name.f
  rw [show ((ints l).length : Int) = (l.length : Int) by simp [ints]]
  exact this
theorem nameGo_le : ∀ (l : Bs) (i : Nat), nameGo l i ≤ i + l.length
  | [], i => by simp [nameGo]
  | c :: cs, i => by
    rw [nameGo]
    split
    · omega
    · have := nameGo_le cs (i + 1); simp; omega
theorem name_le (l : Bs) : name l ≤ l.length := by have := nameGo_le l 0; unfold name; omega

theorem digit_eq (c : UInt8) (k : Nat) : scan_digit.f (k + 2) (c.toNat : Int) = some (digit c : Int) := by
  have hv := u8_lt c
  unfold scan_digit.f digit
  simp only [scan_digit.j0, scan_digit.j1]
  generalize c.toNat = v at *
  simp only [decide_eq_true_eq, Bool.false_eq_true, if_false]
  repeat' split
  all_goals first | (exfalso; omega) | (refine congrArg some ?_; omega)
theorem digit_le (c : UInt8) : digit c ≤ 16 := by
  have hv := u8_lt c
  unfold digit
  split
  · omega
  · split
    · omega
    · split <;> omega

theorem digits_loop (b : Bs) (hb : b.length ≤ 4611686018427387904) (base : Nat) (h8 : 8 ≤ base) (h16 : base ≤ 16) : ∀ (cs front : Bs) (n : Nat) (o : Bool) (k : Nat), b = front ++ cs → 2 * cs.length + 6 < k → n ≤ maxI →
    scan_Digits.l0 k (ints b) (base : Int) (n : Int) (front.length : Int) o = some (((digitsGo base cs n front.length o).1 : Int), ((digitsGo base cs n front.length o).2.1 : Int), (digitsGo base cs n front.length o).2.2)
  | [], front, n, o, k, hf, hk, hn => by
    obtain ⟨k, rfl⟩ : ∃ j, k = j + 2 := ⟨k - 2, by simp at hk; omega⟩
    rw [scan_Digits.l0, if_neg (by rw [hf]; simp [ints]), scan_Digits.j2, if_neg (by simp), digitsGo]
  | c :: cs, front, n, o, k, hf, hk, hn => by
    obtain ⟨k, rfl⟩ : ∃ j, k = j + 4 := ⟨k - 4, by simp at hk; omega⟩
    have hd := digit_le c
    have hlen := congrArg List.length hf
    simp at hlen
    have hlen2 : (front.length : Int) < ((ints b).length : Int) := by rw [hf]; exact len_at _ _ _
    have hrd : rd (ints b) (front.length : Int) = (c.toNat : Int) := by rw [hf]; exact rd_at _ _ _
    have hw : wrap64 ((front.length : Int) + 1) = (((front ++ [c]).length : Nat) : Int) := by
      rw [wrap_succ _ (by omega)]; simp
    have hl1 : (front ++ [c]).length = front.length + 1 := by simp
    have ih := fun n o (hn : n ≤ maxI) => digits_loop b hb base h8 h16 cs (front ++ [c]) n o (k + 2) (by rw [hf]; simp) (by simp at hk; omega) hn
    rw [scan_Digits.l0, if_pos hlen2, if_pos (by omega), hrd, show k + 3 = (k + 1) + 2 from rfl, digit_eq c (k + 1), Option.bind_some, scan_Digits.j2, digitsGo]
    by_cases hdb : digit c < base
    · rw [if_pos (by simp; omega), if_pos (by omega), if_pos hlen2, hrd, digit_eq c k, Option.bind_some, if_pos hdb, hw]
      have hmx : ((9223372036854775807 : Nat) : Int) = 9223372036854775807 := rfl
      cases o with
      | true =>
        rw [if_pos rfl, if_pos (Or.inl rfl), ← hmx]
        have := ih maxI true (Nat.le_refl _)
        rw [hl1] at this
        rw [hl1]
        exact this
      | false =>
        rw [if_neg (by simp), if_neg (by omega)]
        have hsub : wrap64 (9223372036854775807 - (digit c : Int)) = ((maxI - digit c : Nat) : Int) := by unfold wrap64 maxI; omega
        have hdiv : wrap64 (Int.tdiv (wrap64 (9223372036854775807 - (digit c : Int))) (base : Int)) = (((maxI - digit c) / base : Nat) : Int) := by
          rw [hsub, ← Int.ofNat_tdiv]
          refine wrap_nat _ (Nat.le_trans (Nat.div_le_self _ _) ?_)
          unfold maxI; omega
        rw [hdiv]
        by_cases hov : n > (maxI - digit c) / base
        · rw [if_pos (by omega), if_pos (Or.inr hov), ← hmx]
          have := ih maxI true (Nat.le_refl _)
          rw [hl1] at this
          rw [hl1]
          exact this
        · have hle : n * base + digit c ≤ maxI := by
            have h1 := (Nat.le_div_iff_mul_le (by omega : 0 < base)).1 (Nat.not_lt.1 hov)
            have : digit c ≤ maxI := by unfold maxI; omega
            omega
          have hm : wrap64 (wrap64 ((n : Int) * (base : Int)) + (digit c : Int)) = ((n * base + digit c : Nat) : Int) := by
            rw [← Int.natCast_mul, wrap_nat _ (by unfold maxI at hle; omega), ← Int.natCast_add, wrap_nat _ (by unfold maxI at hle; omega)]
          rw [if_neg (by omega), if_neg (by simpa using hov), hm]
          have := ih (n * base + digit c) false hle
          rw [hl1] at this
          rw [hl1]
          exact this
    · rw [if_neg (by simp; omega), if_neg hdb]
theorem digits_eq (b : Bs) (hb : b.length ≤ 4611686018427387904) (base : Nat) (h8 : 8 ≤ base) (h16 : base ≤ 16) (k : Nat) (hk : 2 * b.length + 8 < k) :
    scan_Digits.f k (ints b) (base : Int) = some (((digits b base).1 : Int), ((digits b base).2.1 : Int), (digits b base).2.2) := by
  obtain ⟨k, rfl⟩ : ∃ j, k = j + 1 := ⟨k - 1, by omega⟩
  have := digits_loop b hb base h8 h16 b [] 0 false k rfl (by omega) (Nat.zero_le _)
  unfold scan_Digits.f
  rw [if_neg (by omega), scan_Digits.j0, if_neg (by simp; omega)]
  exact this
theorem digitsGo_le (base : Nat) : ∀ (l : Bs) (n k : Nat) (o : Bool), n ≤ maxI → (digitsGo base l n k o).1 ≤ maxI ∧ (digitsGo base l n k o).2.1 ≤ k + l.length
  | [], n, k, o, hn => by rw [digitsGo]; exact ⟨hn, Nat.le_add_right _ _⟩
  | c :: cs, n, k, o, hn => by
    rw [digitsGo]
    split
    · split
      · have := digitsGo_le base cs maxI (k + 1) true (Nat.le_refl _)
        exact ⟨this.1, by have := this.2; simp; omega⟩
      · rename_i h1 h2
        have hov : ¬ n > (maxI - digit c) / base := fun h => h2 (Or.inr h)
        have hd := digit_le c
        have := digitsGo_le base cs (n * base + digit c) (k + 1) false (by
          have h1' := (Nat.le_div_iff_mul_le (by omega : 0 < base)).1 (Nat.not_lt.1 hov)
          have : digit c ≤ maxI := by unfold maxI; omega
          omega)
        exact ⟨this.1, by have := this.2; simp; omega⟩
    · exact ⟨hn, Nat.le_add_right _ _⟩
theorem digits_le (b : Bs) (base : Nat) : (digits b base).1 ≤ maxI ∧ (digits b base).2.1 ≤ b.length := by
  have := digitsGo_le base b 0 0 false (Nat.zero_le _)
  exact ⟨this.1, by have := this.2; unfold digits; omega⟩
theorem const_both (l : Bs) : (const l).1 ≤ maxI ∧ (const l).2.1 ≤ l.length := by
  unfold const
  split
  · exact ⟨Nat.zero_le _, Nat.zero_le _⟩
  · rename_i c r
    split
    · exact ⟨Nat.zero_le _, Nat.zero_le _⟩
    · split
      · exact digits_le _ _
      · split
        · rename_i d r'
          split
          · split
            · have := digits_le r' 16
              exact ⟨this.1, by have := this.2; simp; omega⟩
            · exact digits_le _ _
          · exact digits_le _ _
        · exact digits_le _ _
theorem const_le (l : Bs) : (const l).2.1 ≤ l.length := (const_both l).2
theorem const_max (l : Bs) : (const l).1 ≤ maxI := (const_both l).1
theorem const_eq (l : Bs) (h : l.length ≤ 4611686018427387904) : ∃ k, scan_Const.f k (ints l) = some (((const l).1 : Int), ((const l).2.1 : Int), (const l).2.2) := by
  refine ⟨2 * l.length + 12, ?_⟩
  have hD := fun base h8 h16 k hk => digits_eq l h base h8 h16 k hk
  unfold scan_Const.f
  cases l with
  | nil => rfl
  | cons c r =>
    have hlen : ((ints (c :: r)).length : Int) = (r.length : Int) + 1 := by simp [ints]
    have h0 : rd (ints (c :: r)) 0 = (c.toNat : Int) := rfl
    rw [if_neg (by omega), if_pos (by omega), h0]
    unfold const
    dsimp only
    by_cases h1 : c < 48 ∨ 57 < c
    · rw [if_pos h1]
      have h1' : c.toNat < 48 ∨ 57 < c.toNat := by simpa [UInt8.lt_iff_toNat_lt] using h1
      by_cases h2 : c.toNat < 48
      · rw [if_pos (by omega), scan_Const.j0, if_pos rfl]; rfl
      · rw [if_neg (by omega), scan_Const.j0, if_pos (by simp; omega)]; rfl
    · rw [if_neg h1]
      have h1' : ¬ (c.toNat < 48 ∨ 57 < c.toNat) := by simpa [UInt8.lt_iff_toNat_lt] using h1
      rw [if_neg (by omega), scan_Const.j0, if_neg (by simp; omega), if_pos (by omega), h0]
      by_cases h2 : c = 48
      · subst h2
        rw [if_pos (by rfl), if_neg (show ¬ ((48 : UInt8) ≠ 48) by simp)]
        have hD8 := hD 8 (by omega) (by omega) (2 * (48 :: r : Bs).length + 10) (by omega)
        cases r with
        | nil =>
          rw [if_neg (by simp [ints]), scan_Const.j1, if_neg (by simp)]
          rw [show ((8 : Int)) = ((8 : Nat) : Int) from rfl, hD8]
          rfl
        | cons d r' =>
          have hl2 : ((ints (48 :: d :: r')).length : Int) = (r'.length : Int) + 2 := by simp [ints]; omega
          have h10 : rd (ints (48 :: d :: r')) 1 = (d.toNat : Int) := rfl
          have hd16 := digits_eq r' (by simp at h; omega) 16 (by omega) (by omega) (2 * (48 :: d :: r' : Bs).length + 10) (by simp; omega)
          have hle := digits_le r' 16
          have hx : (d = 120 ∨ d = 88) ↔ (d.toNat = 120 ∨ d.toNat = 88) := by simp [← UInt8.toNat_inj]
          have hdrop : (ints (48 :: d :: r')).drop 2 = ints r' := rfl
          rw [if_pos (by omega), if_pos (by omega), h10]
          have hj : ∀ bb : Bool, (bb = true ↔ (d = 120 ∨ d = 88)) → scan_Const.j1 (2 * (48 :: d :: r' : Bs).length + 11) (ints (48 :: d :: r')) bb =
              some (((if d = 120 ∨ d = 88 then (if (digits r' 16).2.1 > 0 then ((digits r' 16).1, (digits r' 16).2.1 + 2, (digits r' 16).2.2) else digits (48 :: d :: r') 8) else digits (48 :: d :: r') 8).1 : Int),
                ((if d = 120 ∨ d = 88 then (if (digits r' 16).2.1 > 0 then ((digits r' 16).1, (digits r' 16).2.1 + 2, (digits r' 16).2.2) else digits (48 :: d :: r') 8) else digits (48 :: d :: r') 8).2.1 : Int),
                (if d = 120 ∨ d = 88 then (if (digits r' 16).2.1 > 0 then ((digits r' 16).1, (digits r' 16).2.1 + 2, (digits r' 16).2.2) else digits (48 :: d :: r') 8) else digits (48 :: d :: r') 8).2.2) := by
            intro bb hbb
            rw [scan_Const.j1]
            by_cases hd : d = 120 ∨ d = 88
            · rw [if_pos (hbb.2 hd), if_pos (by omega), hdrop, show (16 : Int) = ((16 : Nat) : Int) from rfl, hd16, Option.bind_some]
              simp only [if_pos hd]
              by_cases hz : (digits r' 16).2.1 > 0
              · simp only [if_pos hz]
                rw [if_pos (by simpa using hz)]
                rw [show (((digits r' 16).2.1 : Int) + 2) = (((digits r' 16).2.1 + 2 : Nat) : Int) from rfl, wrap_nat _ (by have := hle.2; simp at h; omega)]
              · simp only [if_neg hz]
                rw [if_neg (by simpa using hz), show ((8 : Int)) = ((8 : Nat) : Int) from rfl, hD8]
                rfl
            · rw [if_neg (fun hh => hd (hbb.1 hh)), show ((8 : Int)) = ((8 : Nat) : Int) from rfl, hD8]
              simp only [if_neg hd]
              rfl
          by_cases h120 : d = 120
          · rw [if_pos (by rw [h120]; rfl)]
            exact hj true (by simp [h120])
          · rw [if_neg (by intro hh; exact h120 (by rw [← UInt8.toNat_inj]; simpa using Int.ofNat_inj.1 hh))]
            refine hj _ ?_
            rw [hx]
            have h120' : ¬ d.toNat = 120 := fun hh => h120 (by rw [← UInt8.toNat_inj]; exact hh)
            simp [h120']
            omega
      · have hn : ¬ c.toNat = 48 := fun hh => h2 (by rw [← UInt8.toNat_inj]; exact hh)
        rw [if_neg (by omega), if_pos h2, show ((10 : Int)) = ((10 : Nat) : Int) from rfl, hD 10 (by omega) (by omega) _ (by omega)]
        rfl

theorem mk_sz (l : Bs) : (mk l).size = l.length := by simp [mk, ByteArray.size]
theorem mk_cut (l : Bs) (i j : Nat) : (mk l).extract i j = mk ((l.take j).drop i) := by
  apply ByteArray.ext
  rw [ByteArray.data_extract]
  simp [mk, List.extract_toArray, List.drop_take]
theorem beq_pre (l p : Bs) (h : p.length ≤ l.length) : (l.take p.length == p) = p.isPrefixOf l := by
  rw [Bool.eq_iff_iff, List.isPrefixOf_iff_prefix, beq_iff_eq]
  constructor
  · intro e; rw [← e]; exact List.take_prefix _ _
  · intro e; exact (List.prefix_iff_eq_take.1 e).symm
theorem prefix_eq (l p : Bs) (h : l.length ≤ 4611686018427387904) : strings_HasPrefix.f (mk l) (mk p) = some (p.isPrefixOf l) := by
  unfold strings_HasPrefix.f stringslite_HasPrefix.f
  rw [mk_sz, mk_sz]
  by_cases hp : p.length ≤ l.length
  · rw [if_pos (by omega), if_pos (by omega), if_pos (by omega), Option.bind_some, Int.toNat_natCast, mk_cut, List.drop_zero, mk_toList, mk_toList, beq_pre l p hp]
  · rw [if_neg (by omega), Option.bind_some]
    refine congrArg some ?_
    symm
    rw [← Bool.not_eq_true, List.isPrefixOf_iff_prefix]
    intro e
    exact hp e.length_le
theorem suffix_eq (l p : Bs) (h : l.length ≤ 4611686018427387904) : strings_HasSuffix.f (mk l) (mk p) = some (decide (p <:+ l)) := by
  unfold strings_HasSuffix.f stringslite_HasSuffix.f
  rw [mk_sz, mk_sz]
  by_cases hp : p.length ≤ l.length
  · have hw : wrap64 ((l.length : Int) - (p.length : Int)) = ((l.length - p.length : Nat) : Int) := by unfold wrap64; omega
    rw [if_pos (by omega), hw, if_pos (by omega), if_pos (by omega), Option.bind_some, Int.toNat_natCast, mk_cut, List.take_length, mk_toList, mk_toList]
    refine congrArg some ?_
    rw [Bool.eq_iff_iff, beq_iff_eq, decide_eq_true_iff]
    constructor
    · intro e; rw [← e]; exact List.drop_suffix _ _
    · intro e; exact (List.suffix_iff_eq_drop.1 e).symm
  · rw [if_neg (by omega), Option.bind_some]
    refine congrArg some ?_
    symm
    rw [decide_eq_false_iff_not]
    intro e
    exact hp e.length_le
theorem assigns_eq (op : Bs) (h : op.length ≤ 1024) : arith_assigns.f (mk op) = some (assigns op) := by
  have hs := suffix_eq op [61] (by omega)
  have hm : (⟨#[61]⟩ : ByteArray) = mk [61] := rfl
  unfold arith_assigns.f assigns
  rw [mk_toList, hm, hs, Option.bind_some]
  by_cases h1 : op = [60, 61]
  · rw [if_pos h1, if_pos (Or.inl h1)]
  by_cases h2 : op = [62, 61]
  · rw [if_neg h1, if_pos h2, if_pos (Or.inr (Or.inl h2))]
  by_cases h3 : op = [61, 61]
  · rw [if_neg h1, if_neg h2, if_pos h3, if_pos (Or.inr (Or.inr (Or.inl h3)))]
  by_cases h4 : op = [33, 61]
  · rw [if_neg h1, if_neg h2, if_neg h3, if_pos h4, if_pos (Or.inr (Or.inr (Or.inr h4)))]
  rw [if_neg h1, if_neg h2, if_neg h3, if_neg h4, if_neg (by rintro (h | h | h | h) <;> contradiction)]
  refine congrArg some ?_
  rw [Bool.eq_iff_iff, decide_eq_true_iff, beq_iff_eq]
  constructor
  · rintro ⟨t, rfl⟩; simp
  · intro e
    obtain ⟨ys, rfl⟩ := List.getLast?_eq_some_iff.1 e
    exact ⟨ys, rfl⟩
theorem index_loop (l : List Bs) (x : Bs) (hl : l.length ≤ 4611686018427387904) : ∀ (cs front : List Bs) (k : Nat), l = front ++ cs → cs.length < k →
    ∃ r : Int, slices_Index_string_string.l0 k (l.map mk) (mk x) (l.length : Int) (front.length : Int) = some r ∧ (decide (r ≥ 0)) = cs.contains x
  | [], front, k, hf, hk => by
    obtain ⟨k, rfl⟩ : ∃ j, k = j + 1 := ⟨k - 1, by simp at hk; omega⟩
    exact ⟨-1, by rw [slices_Index_string_string.l0, if_neg (by rw [hf]; simp)], by simp⟩
  | c :: cs, front, k, hf, hk => by
    obtain ⟨k, rfl⟩ : ∃ j, k = j + 1 := ⟨k - 1, by simp at hk; omega⟩
    have hlen := congrArg List.length hf
    simp at hlen
    obtain ⟨r, hr, hc⟩ := index_loop l x hl cs (front ++ [c]) k (by rw [hf]; simp) (by simp at hk; omega)
    have hw : wrap64 ((front.length : Int) + 1) = (((front ++ [c]).length : Nat) : Int) := by
      rw [wrap_succ _ (by omega)]; simp
    have hrd : rdOf ByteArray.empty (l.map mk) (front.length : Int) = mk c := by
      rw [hf]; simp [rdOf]
    rw [slices_Index_string_string.l0, if_pos (by omega), if_pos (by omega), if_pos (by simp; omega), hrd, mk_toList, mk_toList, hw, hr]
    by_cases he : x = c
    · exact ⟨_, by rw [if_pos he], by simp [he]⟩
    · exact ⟨r, by rw [if_neg he], by rw [hc]; simp [he]⟩
theorem contains_eq (l : List Bs) (x : Bs) (h : l.length ≤ 4611686018427387904) : ∃ k, slices_Contains_string_string.f k (l.map mk) (mk x) = some (l.contains x) := by
  obtain ⟨r, hr, hc⟩ := index_loop l x h l [] (l.length + 1) rfl (by omega)
  refine ⟨l.length + 1, ?_⟩
  unfold slices_Contains_string_string.f slices_Index_string_string.f
  rw [List.length_map]
  have hr' : slices_Index_string_string.l0 (l.length + 1) (l.map mk) (mk x) (l.length : Int) 0 = some r := hr
  rw [hr', Option.bind_some, hc]
end Go.Proofs.YtjllmamblkejjaaGreatDoor
end

/- What (*arith.reader).next comes to: the spec's token; it makes memory, and changes none. -/
section
set_option linter.unusedVariables false
set_option linter.unusedSimpArgs false
namespace Go.Proofs.YtjllmamblkejjaaGreatDoor
open Go.RowKit Go.Proofs.YtjllmamblkejjaaGreatDoorW.PrintWords Go.Proofs.YtjllmamblkejjaaGreatDoorW.PrintLast Go.Proofs.YtjllmamblkejjaaGreatDoorW.PrintMore
open PQA Sp
attribute [local go_sem] max2_int min2_int max_two min_two max_three min_three max_four min_four

theorem const_calls (l : Bs) (n m : Nat) (o : Bool) (h : const l = (n, m, o)) (A : Option Addr) (c : Nat) (w : World) (hr : Rb w A l) (hc : l.length ≤ c) (hl : l.length ≤ 4611686018427387904) :
    Calls Tryz.prog 95 #[.slice A l.length c] w fun e w' => e = .returned (.tuple #[.int .i64 (n : Int), .int .i64 (m : Int), .bool o]) ∧ Drawn0 w w' := by
  obtain ⟨k, hk⟩ := const_eq l hl
  rw [h] at hk
  have := scan_Const.calls k A c (ints l) _ _ _ w (by rw [ints_length]; exact hr) (by rw [ints_length]; exact hc) hk
  rwa [ints_length] at this
theorem name_calls (l : Bs) (A : Option Addr) (c : Nat) (w : World) (hr : Rb w A l) (hc : l.length ≤ c) (hl : l.length ≤ 4611686018427387904) :
    Calls Tryz.prog 51 #[.slice A l.length c] w fun e w' => e = .returned (.int .i64 (name l : Int)) ∧ Drawn0 w w' := by
  obtain ⟨k, hk⟩ := name_eq l hl
  have := scan_Name.calls k A c (ints l) _ w (by rw [ints_length]; exact hr) (by rw [ints_length]; exact hc) hk
  rwa [ints_length] at this

theorem prefix_calls (l p : Bs) (w : World) (h : l.length ≤ 4611686018427387904) : Calls Tryz.prog 97 #[.string (mk l), .string (mk p)] w fun e w' => e = .returned (.bool (p.isPrefixOf l)) ∧ Drawn0 w w' :=
  strings_HasPrefix.calls (mk l) (mk p) _ w (prefix_eq l p h)
theorem name_calls_m (l : Bs) (m : Nat) (h : m = name l) (A : Option Addr) (c : Nat) (w : World) (hr : Rb w A l) (hc : l.length ≤ c) (hl : l.length ≤ 4611686018427387904) :
    Calls Tryz.prog 51 #[.slice A l.length c] w fun e w' => e = .returned (.int .i64 (m : Int)) ∧ Drawn0 w w' := by subst h; exact name_calls l A c w hr hc hl
theorem mk_size (l : Bs) : (mk l).size = l.length := by simp [mk, ByteArray.size]
theorem ops_short (i : Nat) (hi : i < 35) : (ops.getD i []).length ≤ 3 := by
  have h : ∀ i : Fin 35, (ops.getD i.1 []).length ≤ 3 := by decide
  exact h ⟨i, hi⟩
theorem ops_drop (i : Nat) (hi : i < 35) : ops.drop i = ops.getD i [] :: ops.drop (i + 1) := by
  have hl : ops.length = 35 := rfl
  rw [List.drop_eq_getElem_cons (by omega)]
  simp [List.getD_eq_getElem?_getD, hl, hi]
theorem take_min (l : Bs) : l.take (min 3 l.length) = l.take 3 := by rw [← List.take_take, List.take_length]
theorem operators_calls (w : World) : Calls Tryz.prog 96 #[] w fun e w' => ∃ A c, e = .returned (.slice A 35 c) ∧ Kd.C Kd.string w' A 35 (ops.map mk) ∧ Below w.heap.size w w' :=
  (arith_operators.calls (ops.map mk) w rfl).mono fun e w' ⟨v, he, hR, hB⟩ => by
    obtain ⟨A, c, rfl, _, hC⟩ := Kd.R_reads hR
    exact ⟨A, c, he, hC, hB⟩
theorem op_cell {w : World} {A : Option Addr} (h : Kd.C Kd.string w A 35 (ops.map mk)) (i : Nat) (hi : i < 35) : ∃ ad, A = some ad ∧ w.cell? (ad.add i) = some (.string (mk (ops.getD i []))) := by
  obtain ⟨ad, e, hc⟩ := Kd.at_string h (i : Int) (by omega) (by omega)
  refine ⟨ad, e, ?_⟩
  rw [Int.toNat_natCast] at hc
  rw [hc]
  have hl : ops.length = 35 := rfl
  simp [rdOf, hl, hi]

set_option maxHeartbeats 4000000 in
set_option maxRecDepth 100000 in
theorem next_calls (b : Bs) (t : Tok) (g : Nat) (w0 w : World) (at_ : Nat) (hI : IsRd w0 w g b t) (hB : Below w0.heap.size w0 w) (hat : at_ ≤ b.length) (hlen : b.length ≤ 1024) :
    Calls Tryz.prog 62 #[.pointer (some ⟨g, 0, none⟩), .int .i64 at_] w fun e w' => e = .returned (tokV (next b at_)) ∧ Below w.heap.size w w' := by
  obtain ⟨A, c, hg, hge, hc, hC⟩ := hI
  have hcell0 : w.cell? ⟨g, 0, none⟩ = some (.slice A b.length c) := (blk_cell hg 0).trans rfl
  have hglt := blk_lt hg
  have HG := Aside0.mk hg
  clear hg
  have HC := Aside0.mk (Kd.C_below hC hB)
  clear hC
  have HB := Aside0.mk hB
  clear hB
  go_enter Tryz.func62, Tryz.ntmps62
  go_upto_block 0 with (fail)
  go_cut [1] (fun v1 wc => ∃ a : Nat, v1 = .int .i64 (a : Int) ∧ a ≤ b.length ∧ Aside0 (a = at_ + skip (b.drop at_)) ∧ w.alloc (.cells #[.string ⟨#[]⟩, .int .i64 0, .int .i64 0, .int .i64 0, .bool false, .string ⟨#[]⟩] 75) = wc)
  case first =>
    go_wp2_with fail
    go_loop [1] (fun v1 => ∃ j : Nat, v1 = .int .i64 (j : Int) ∧ j ≤ b.length ∧ Aside0 (j + skip (b.drop j) = at_ + skip (b.drop at_))) (fun v1 => b.length - (intOf v1).toNat)
    case atStart => exact ⟨at_, rfl, hat, ⟨rfl⟩⟩
    case round =>
      obtain ⟨j, rfl, hj, HJ⟩ := hrel
      by_cases hlt : j < b.length
      · obtain ⟨ad, rfl, hb0⟩ := rb_byte HC.out j hlt
        have hb1 := pw_cell_below (below_alloc (Below.refl w.heap.size w) (.cells #[.string ⟨#[]⟩, .int .i64 0, .int .i64 0, .int .i64 0, .bool false, .string ⟨#[]⟩] 75)) hb0
        clear hb0
        have HD := Aside0.mk (List.drop_eq_getElem_cons hlt)
        generalize hz : b[j] = z at *
        have HZ := Aside0.mk hz
        clear hz
        have h32 : ((z.toNat : Int) == 32) = decide (z = 32) := byte_eq z 32
        have h9 : ((z.toNat : Int) == 9) = decide (z = 9) := byte_eq z 9
        have h10 : ((z.toNat : Int) == 10) = decide (z = 10) := byte_eq z 10
        by_cases hw : z = 32 ∨ z = 9 ∨ z = 10
        · have HN : Aside0 (j + 1 + skip (b.drop (j + 1)) = at_ + skip (b.drop at_)) := ⟨by
            have := HJ.out
            rw [HD.out, skip, if_pos hw] at this
            omega⟩
          rcases hw with hw | hw | hw <;> subst hw
          all_goals
            simp only [decide_true, show ((32 : UInt8) = 9) = False from by decide, show ((32 : UInt8) = 10) = False from by decide, show ((9 : UInt8) = 32) = False from by decide, show ((9 : UInt8) = 10) = False from by decide, show ((10 : UInt8) = 32) = False from by decide, show ((10 : UInt8) = 9) = False from by decide, decide_false] at h32 h9 h10
            go_wp2_with fail
            go_round
            case rel => exact ⟨j + 1, by go_num, by omega, HN⟩
            case measure => simp [intOf]; omega
        · have h1 : ¬ z = 32 := fun h => hw (.inl h)
          have h2 : ¬ z = 9 := fun h => hw (.inr (.inl h))
          have h3 : ¬ z = 10 := fun h => hw (.inr (.inr h))
          simp only [decide_eq_false h1] at h32
          simp only [decide_eq_false h2] at h9
          simp only [decide_eq_false h3] at h10
          have HS : Aside0 (j = at_ + skip (b.drop at_)) := ⟨by
            have := HJ.out
            rw [HD.out, skip, if_neg hw] at this
            omega⟩
          clear hw h1 h2 h3
          go_wp2_with fail
          go_meet
          case rel => exact ⟨j, rfl, hj, HS, rfl⟩
      · have HE : Aside0 (j = b.length) := ⟨by omega⟩
        go_wp2_with fail
        go_meet
        case rel => exact ⟨j, rfl, hj, ⟨by have := HJ.out; rw [HE.out] at this ⊢; simpa [skip] using this⟩, rfl⟩
  case rest =>
    obtain ⟨a, rfl, ha, HA, rfl⟩ := hcut
    obtain ⟨rest, A', hrest, hcutr, hrb, hrl⟩ := rest_cut A c b a ha hc
    have HT : Aside0 (next b at_ = tokAt rest a) := ⟨by rw [next, ← HA.out, hrest]⟩
    have HRb := Aside0.mk (hrb w HC.out)
    have hrlen : rest.length ≤ 1024 := by rw [hrest, List.length_drop]; omega
    clear hrest hrb HA
    by_cases hr : rest = []
    · subst hr
      have h0 : (((([] : Bs).length : Nat) : Int) == 0) = true := rfl
      go_wp2_with fail
      refine bodyPost_ret (v := tokV (tokAt [] a)) (by simp [results, Tryz.results62, go_sem, tokV, tokAt, mk]) rfl ⟨by rw [HT.out], ?_⟩
      exact (by repeat (first | (with_reducible exact Below.refl _ _) | (with_reducible apply below_alloc) | (with_reducible apply pw_below_drewN) | (with_reducible apply below_drew1) | (with_reducible refine below_put ?_ _ _ (by first | exact Nat.le_refl _ | (simp; done) | (simp; omega)) _)))
    · have h0 : ((rest.length : Int) == 0) = false := by
        rw [beq_eq_false_iff_ne]; cases rest with
        | nil => exact absurd rfl hr
        | cons x y => simp; omega
      have HE := Aside0.mk hr
      clear hr
      obtain ⟨n, k, o, hcst⟩ : ∃ n k o, const rest = (n, k, o) := ⟨_, _, _, rfl⟩
      have hkl : k ≤ rest.length := by have := const_le rest; rw [hcst] at this; exact this
      have hnm : n ≤ maxI := by have := const_max rest; rw [hcst] at this; exact this
      have HCst := Aside0.mk hcst
      clear hcst
      by_cases hk : 0 < k
      · have hkb : decide ((0 : Int) < (k : Int)) = true := by simpa using hk
        go_wp2_with fail
        with_reducible refine (const_calls rest n k o HCst.out A' _ _ ?_ hrl (by omega)).mono ?_
        · exact Kd.C_below HRb.out (by repeat (first | (with_reducible exact Below.refl _ _) | (with_reducible apply below_alloc) | (with_reducible apply pw_below_drewN) | (with_reducible apply below_drew1) | (with_reducible refine below_put ?_ _ _ (by first | exact Nat.le_refl _ | (simp; done) | (simp; omega)) _)))
        rintro e w' ⟨rfl, ⟨nd, rfl⟩⟩
        have HV : Aside0 (tokAt rest a = ⟨wNum, a, a + k, n, o, []⟩) := ⟨by rw [tokAt, if_neg HE.out, HCst.out, if_pos hk]⟩
        go_wp2_with fail
        refine bodyPost_ret (v := tokV ⟨wNum, a, a + k, n, o, []⟩) (by simp [results, Tryz.results62, go_sem, tokV, mk, wNum]) rfl ⟨by rw [HT.out, HV.out], ?_⟩
        exact (by repeat (first | (with_reducible exact Below.refl _ _) | (with_reducible apply below_alloc) | (with_reducible apply pw_below_drewN) | (with_reducible apply below_drew1) | (with_reducible refine below_put ?_ _ _ (by first | exact Nat.le_refl _ | (simp; done) | (simp; omega)) _)))
      · obtain rfl : k = 0 := by omega
        clear hk
        have hml : name rest ≤ rest.length := name_le rest
        obtain ⟨m, hm⟩ : ∃ m, m = name rest := ⟨_, rfl⟩
        have HM := Aside0.mk hm
        rw [← hm] at hml
        clear hm
        by_cases hm0 : m = 0
        · subst hm0
          go_wp2_with fail
          with_reducible refine (const_calls rest n 0 o HCst.out A' _ _ ?_ hrl (by omega)).mono ?_
          · exact Kd.C_below HRb.out (by repeat (first | (with_reducible exact Below.refl _ _) | (with_reducible apply below_alloc) | (with_reducible apply pw_below_drewN) | (with_reducible apply below_drew1) | (with_reducible refine below_put ?_ _ _ (by first | exact Nat.le_refl _ | (simp; done) | (simp; omega)) _)))
          rintro e w' ⟨rfl, ⟨nd, rfl⟩⟩
          go_wp2_with fail
          have HN := name_calls rest A' (c - a)
          rw [← HM.out] at HN
          with_reducible refine (HN _ ?_ hrl (by omega)).mono ?_
          · exact Kd.C_below HRb.out (by repeat (first | (with_reducible exact Below.refl _ _) | (with_reducible apply below_alloc) | (with_reducible apply pw_below_drewN) | (with_reducible apply below_drew1) | (with_reducible refine below_put ?_ _ _ (by first | exact Nat.le_refl _ | (simp; done) | (simp; omega)) _)))
          clear HN
          rintro e w' ⟨rfl, ⟨nd2, rfl⟩⟩
          go_wp2_with fail
          with_reducible refine (operators_calls _).mono ?_
          rintro e wc ⟨Ao, co, rfl, hO, hBo⟩
          have hBc : Below w.heap.size w wc := below_then (by repeat (first | (with_reducible exact Below.refl _ _) | (with_reducible apply below_alloc) | (with_reducible apply pw_below_drewN) | (with_reducible apply below_drew1) | (with_reducible refine below_put ?_ _ _ (by first | exact Nat.le_refl _ | (simp; done) | (simp; omega)) _))) (by simp; omega) hBo
          have hb0 : wc.heap[w.heap.size]? = some (.cells #[.string ⟨#[]⟩, .int .i64 0, .int .i64 0, .int .i64 0, .bool false, .string ⟨#[]⟩] 75 (0, 0)) := (hBo.block _ (by simp; omega)).trans (new0 w _ _ _)
          have hb1 : wc.heap[w.heap.size + 1]? = some (.cells #[.string ⟨#[]⟩, .int .i64 a, .int .i64 a, .int .i64 0, .bool false, .string ⟨#[]⟩] 75 (0, 0)) := (hBo.block _ (by simp)).trans (new1 w _ _ _)
          have hRc := Aside0.mk (Kd.C_below HRb.out hBc)
          have HBc := Aside0.mk hBc
          have hwl : w.heap.size + 1 < wc.heap.size := blk_lt hb1
          have hk0_0 : wc.cell? ⟨w.heap.size, 0, none⟩ = some (.string ⟨#[]⟩) := (blk_cell hb0 0).trans rfl
          have hf0_0 := blk_frozen hb0 0
          have hk0_1 : wc.cell? ⟨w.heap.size, 1, none⟩ = some (.int .i64 0) := (blk_cell hb0 1).trans rfl
          have hf0_1 := blk_frozen hb0 1
          have hk0_2 : wc.cell? ⟨w.heap.size, 2, none⟩ = some (.int .i64 0) := (blk_cell hb0 2).trans rfl
          have hf0_2 := blk_frozen hb0 2
          have hk0_3 : wc.cell? ⟨w.heap.size, 3, none⟩ = some (.int .i64 0) := (blk_cell hb0 3).trans rfl
          have hf0_3 := blk_frozen hb0 3
          have hk0_4 : wc.cell? ⟨w.heap.size, 4, none⟩ = some (.bool false) := (blk_cell hb0 4).trans rfl
          have hf0_4 := blk_frozen hb0 4
          have hk0_5 : wc.cell? ⟨w.heap.size, 5, none⟩ = some (.string ⟨#[]⟩) := (blk_cell hb0 5).trans rfl
          have hf0_5 := blk_frozen hb0 5
          have hk1_0 : wc.cell? ⟨w.heap.size + 1, 0, none⟩ = some (.string ⟨#[]⟩) := (blk_cell hb1 0).trans rfl
          have hf1_0 := blk_frozen hb1 0
          have hk1_1 : wc.cell? ⟨w.heap.size + 1, 1, none⟩ = some (.int .i64 a) := (blk_cell hb1 1).trans rfl
          have hf1_1 := blk_frozen hb1 1
          have hk1_2 : wc.cell? ⟨w.heap.size + 1, 2, none⟩ = some (.int .i64 a) := (blk_cell hb1 2).trans rfl
          have hf1_2 := blk_frozen hb1 2
          have hk1_3 : wc.cell? ⟨w.heap.size + 1, 3, none⟩ = some (.int .i64 0) := (blk_cell hb1 3).trans rfl
          have hf1_3 := blk_frozen hb1 3
          have hk1_4 : wc.cell? ⟨w.heap.size + 1, 4, none⟩ = some (.bool false) := (blk_cell hb1 4).trans rfl
          have hf1_4 := blk_frozen hb1 4
          have hk1_5 : wc.cell? ⟨w.heap.size + 1, 5, none⟩ = some (.string ⟨#[]⟩) := (blk_cell hb1 5).trans rfl
          have hf1_5 := blk_frozen hb1 5
          clear hb0 hb1
          have HO := Aside0.mk hO
          clear hO hBo hBc
          obtain ⟨q, hq⟩ : ∃ q, q = min 3 rest.length := ⟨_, rfl⟩
          have hql : q ≤ rest.length := by omega
          obtain ⟨front, hfront, hcutf, hfb⟩ := take_cut A' (c - a) rest q hql hrl
          have HF : Aside0 (front = rest.take 3) := ⟨by rw [hfront, hq]; exact take_min rest⟩
          clear hfront
          have hql3 : q ≤ 3 := by omega
          have hQ : (if (rest.length : Int) < 3 then (rest.length : Int) else 3) = (q : Int) := by split <;> omega
          clear hq
          have hfl : front.length ≤ 3 := by rw [HF.out, List.length_take]; omega
          go_wp2_with fail
          go_loopw [12, 100] (fun v12 v100 wr => ∃ i N : Nat, v100 = .int .i64 (i : Int) ∧ i ≤ 35 ∧ Aside0 (ops.find? (fun o => o.isPrefixOf (rest.take 3)) = (ops.drop i).find? (fun o => o.isPrefixOf (rest.take 3))) ∧ wc.drewN N = wr) (fun _ v100 _ => 35 - (intOf v100).toNat)
          case atStart => exact ⟨0, 0, rfl, by omega, ⟨by simp⟩, rfl⟩
          case round =>
            obtain ⟨i, N, rfl, hi, HI, rfl⟩ := hrel
            by_cases hi35 : i < 35
            · have hid : decide ((i : Int) < 35) = true := by simp; omega
              obtain ⟨ad, rfl, hoc⟩ := op_cell HO.out i hi35
              have hs := string_of (wc.drewN N) A' (c - a) front (Kd.C_below (hfb wc hRc.out) (by repeat (first | (with_reducible exact Below.refl _ _) | (with_reducible apply below_alloc) | (with_reducible apply pw_below_drewN) | (with_reducible apply below_drew1) | (with_reducible refine below_put ?_ _ _ (by first | exact Nat.le_refl _ | (simp; done) | (simp; omega)) _))))
              have hos := ops_short i hi35
              have hod := ops_drop i hi35
              obtain ⟨op, hop⟩ : ∃ op, op = ops.getD i [] := ⟨_, rfl⟩
              rw [← hop] at hoc hos hod
              clear hop
              rw [← mk_size] at hos
              have HD := Aside0.mk hod
              clear hod
              have hnil := World.drewN_drewN wc N
              go_wp2_with fail
              with_reducible refine (prefix_calls front op _ (by omega)).mono ?_
              rintro e w' ⟨rfl, ⟨nd3, rfl⟩⟩
              have hpf : op.isPrefixOf front = op.isPrefixOf (rest.take 3) := by rw [HF.out]
              generalize op.isPrefixOf front = p at *
              have HP := Aside0.mk hpf
              clear hpf
              cases p with
              | true =>
                have HV : Aside0 (tokAt rest a = ⟨op, a, a + op.length, 0, false, []⟩) := ⟨by
                  rw [tokAt, if_neg HE.out, HCst.out, if_neg (Nat.lt_irrefl 0), ← HM.out, if_neg (Nat.lt_irrefl 0), HI.out, HD.out, List.find?_cons, ← HP.out]⟩
                go_wp2_with fail
                refine bodyPost_ret (v := tokV ⟨op, a, a + op.length, 0, false, []⟩) (by simp [results, Tryz.results62, go_sem, tokV, mk, ByteArray.size, hk0_0, hk0_1, hk0_2, hk0_3, hk0_4, hk0_5]) rfl ⟨by rw [HT.out, HV.out], ?_⟩
                exact (by repeat (first | (with_reducible exact HBc.out) | (with_reducible apply below_alloc) | (with_reducible apply pw_below_drewN) | (with_reducible apply below_drew1) | (with_reducible refine below_put ?_ _ _ (by first | exact Nat.le_refl _ | (simp; done) | (simp; omega)) _)))
              | false =>
                go_wp2_with fail
                go_roundw
                case rel => exact ⟨i + 1, N + nd3, by go_num, by omega, ⟨by rw [HI.out, HD.out, List.find?_cons, ← HP.out]⟩, rfl⟩
                case measure => simp [intOf]; omega
            · have hid : decide ((i : Int) < 35) = false := by simp; omega
              have HV : Aside0 (tokAt rest a = ⟨wNone, a, a, 0, false, []⟩) := ⟨by
                obtain rfl : i = 35 := by omega
                rw [tokAt, if_neg HE.out, HCst.out, if_neg (Nat.lt_irrefl 0), ← HM.out, if_neg (Nat.lt_irrefl 0), HI.out]
                rfl⟩
              go_wp2_with fail
              refine bodyPost_ret (v := tokV ⟨wNone, a, a, 0, false, []⟩) (by simp [results, Tryz.results62, go_sem, tokV, mk, wNone, hk0_0, hk0_1, hk0_2, hk0_3, hk0_4, hk0_5]) rfl ⟨by rw [HT.out, HV.out], ?_⟩
              exact (by repeat (first | (with_reducible exact HBc.out) | (with_reducible apply below_alloc) | (with_reducible apply pw_below_drewN) | (with_reducible apply below_drew1) | (with_reducible refine below_put ?_ _ _ (by first | exact Nat.le_refl _ | (simp; done) | (simp; omega)) _)))
        · have hmb : 0 < m := by omega
          have hmd : decide ((0 : Int) < (m : Int)) = true := by simpa using hmb
          clear hm0
          have HV : Aside0 (tokAt rest a = ⟨wName, a, a + m, 0, false, rest.take m⟩) := ⟨by rw [tokAt, if_neg HE.out, HCst.out, if_neg (Nat.lt_irrefl 0), ← HM.out, if_pos hmb]⟩
          obtain ⟨front, hfront, hcutf, hfb⟩ := take_cut A' (c - a) rest m hml hrl
          rw [← hfront] at HV
          clear hfront
          go_wp2_with fail
          with_reducible refine (const_calls rest n 0 o HCst.out A' _ _ ?_ hrl (by omega)).mono ?_
          · exact Kd.C_below HRb.out (by repeat (first | (with_reducible exact Below.refl _ _) | (with_reducible apply below_alloc) | (with_reducible apply pw_below_drewN) | (with_reducible apply below_drew1) | (with_reducible refine below_put ?_ _ _ (by first | exact Nat.le_refl _ | (simp; done) | (simp; omega)) _)))
          rintro e w' ⟨rfl, ⟨nd, rfl⟩⟩
          go_wp2_with fail
          have HN := name_calls rest A' (c - a)
          rw [← HM.out] at HN
          with_reducible refine (HN _ ?_ hrl (by omega)).mono ?_
          · exact Kd.C_below HRb.out (by repeat (first | (with_reducible exact Below.refl _ _) | (with_reducible apply below_alloc) | (with_reducible apply pw_below_drewN) | (with_reducible apply below_drew1) | (with_reducible refine below_put ?_ _ _ (by first | exact Nat.le_refl _ | (simp; done) | (simp; omega)) _)))
          clear HN
          rintro e w' ⟨rfl, ⟨nd2, rfl⟩⟩
          go_wp2_with fail
          have hs0 : ∀ (N : Nat) , (convert 22 9 (.slice A' front.length (c - a))).run Tryz.prog (((w.alloc (.cells #[.string ⟨#[]⟩, .int .i64 0, .int .i64 0, .int .i64 0, .bool false, .string ⟨#[]⟩] 75)).alloc (.cells #[.string ⟨#[]⟩, .int .i64 a, .int .i64 a, .int .i64 0, .bool false, .string ⟨#[]⟩] 75)).drewN N) = .ok (.string (mk front)) (((w.alloc (.cells #[.string ⟨#[]⟩, .int .i64 0, .int .i64 0, .int .i64 0, .bool false, .string ⟨#[]⟩] 75)).alloc (.cells #[.string ⟨#[]⟩, .int .i64 a, .int .i64 a, .int .i64 0, .bool false, .string ⟨#[]⟩] 75)).drewN N) := fun _  => string_of _ _ _ _ (Kd.C_below (hfb w HRb.out) (by repeat (first | (with_reducible exact Below.refl _ _) | (with_reducible apply below_alloc) | (with_reducible apply pw_below_drewN) | (with_reducible apply below_drew1) | (with_reducible refine below_put ?_ _ _ (by first | exact Nat.le_refl _ | (simp; done) | (simp; omega)) _))))
          have hs1 : ∀ (N : Nat) (o1 : Nat) (v1 : Value), (convert 22 9 (.slice A' front.length (c - a))).run Tryz.prog ((((w.alloc (.cells #[.string ⟨#[]⟩, .int .i64 0, .int .i64 0, .int .i64 0, .bool false, .string ⟨#[]⟩] 75)).alloc (.cells #[.string ⟨#[]⟩, .int .i64 a, .int .i64 a, .int .i64 0, .bool false, .string ⟨#[]⟩] 75)).drewN N).setCell ⟨w.heap.size + 1, o1, none⟩ v1) = .ok (.string (mk front)) ((((w.alloc (.cells #[.string ⟨#[]⟩, .int .i64 0, .int .i64 0, .int .i64 0, .bool false, .string ⟨#[]⟩] 75)).alloc (.cells #[.string ⟨#[]⟩, .int .i64 a, .int .i64 a, .int .i64 0, .bool false, .string ⟨#[]⟩] 75)).drewN N).setCell ⟨w.heap.size + 1, o1, none⟩ v1) := fun _ _ _ => string_of _ _ _ _ (Kd.C_below (hfb w HRb.out) (by repeat (first | (with_reducible exact Below.refl _ _) | (with_reducible apply below_alloc) | (with_reducible apply pw_below_drewN) | (with_reducible apply below_drew1) | (with_reducible refine below_put ?_ _ _ (by first | exact Nat.le_refl _ | (simp; done) | (simp; omega)) _))))
          have hs2 : ∀ (N : Nat) (o1 : Nat) (v1 : Value) (o2 : Nat) (v2 : Value), (convert 22 9 (.slice A' front.length (c - a))).run Tryz.prog (((((w.alloc (.cells #[.string ⟨#[]⟩, .int .i64 0, .int .i64 0, .int .i64 0, .bool false, .string ⟨#[]⟩] 75)).alloc (.cells #[.string ⟨#[]⟩, .int .i64 a, .int .i64 a, .int .i64 0, .bool false, .string ⟨#[]⟩] 75)).drewN N).setCell ⟨w.heap.size + 1, o1, none⟩ v1).setCell ⟨w.heap.size + 1, o2, none⟩ v2) = .ok (.string (mk front)) (((((w.alloc (.cells #[.string ⟨#[]⟩, .int .i64 0, .int .i64 0, .int .i64 0, .bool false, .string ⟨#[]⟩] 75)).alloc (.cells #[.string ⟨#[]⟩, .int .i64 a, .int .i64 a, .int .i64 0, .bool false, .string ⟨#[]⟩] 75)).drewN N).setCell ⟨w.heap.size + 1, o1, none⟩ v1).setCell ⟨w.heap.size + 1, o2, none⟩ v2) := fun _ _ _ _ _ => string_of _ _ _ _ (Kd.C_below (hfb w HRb.out) (by repeat (first | (with_reducible exact Below.refl _ _) | (with_reducible apply below_alloc) | (with_reducible apply pw_below_drewN) | (with_reducible apply below_drew1) | (with_reducible refine below_put ?_ _ _ (by first | exact Nat.le_refl _ | (simp; done) | (simp; omega)) _))))
          go_region
          all_goals
            go_wp2_with fail
            refine bodyPost_ret (v := tokV ⟨wName, a, a + m, 0, false, front⟩) (by simp [results, Tryz.results62, go_sem, tokV, mk, wName]) rfl ⟨by rw [HT.out, HV.out], ?_⟩
            exact (by repeat (first | (with_reducible exact Below.refl _ _) | (with_reducible apply below_alloc) | (with_reducible apply pw_below_drewN) | (with_reducible apply below_drew1) | (with_reducible refine below_put ?_ _ _ (by first | exact Nat.le_refl _ | (simp; done) | (simp; omega)) _)))
end Go.Proofs.YtjllmamblkejjaaGreatDoor
end

/- What arith's strength comes to: the spec's. No conditions beside the library's table. -/
section
set_option linter.unusedVariables false
set_option linter.unusedSimpArgs false
namespace Go.Proofs.YtjllmamblkejjaaGreatDoor
open Go.RowKit Go.Proofs.YtjllmamblkejjaaGreatDoorW.PrintWords Go.Proofs.YtjllmamblkejjaaGreatDoorW.PrintLast Go.Proofs.YtjllmamblkejjaaGreatDoorW.PrintMore
open PQA Sp

def rowT : Nat → Bs
  | 0 => [124, 124] | 1 => [38, 38] | 2 => [124] | 3 => [94] | 4 => [38] | 5 => [61, 61, 32, 33, 61] | 6 => [60, 32, 60, 61, 32, 62, 32, 62, 61] | 7 => [60, 60, 32, 62, 62] | 8 => [43, 32, 45] | _ => [42, 32, 47, 32, 37]
def rowW : Nat → List Bs
  | 0 => [[124, 124]] | 1 => [[38, 38]] | 2 => [[124]] | 3 => [[94]] | 4 => [[38]] | 5 => [[61, 61], [33, 61]] | 6 => [[60], [60, 61], [62], [62, 61]] | 7 => [[60, 60], [62, 62]] | 8 => [[43], [45]] | _ => [[42], [47], [37]]
theorem row_fields (i : Nat) (hi : i < 10) : Lib.fields (rowT i) = rowW i := by
  have hk : i = 0 ∨ i = 1 ∨ i = 2 ∨ i = 3 ∨ i = 4 ∨ i = 5 ∨ i = 6 ∨ i = 7 ∨ i = 8 ∨ i = 9 := by omega
  rcases hk with rfl | rfl | rfl | rfl | rfl | rfl | rfl | rfl | rfl | rfl <;> decide
theorem row_ascii (i : Nat) : ∀ b ∈ rowT i, b.toNat < 128 := by
  unfold rowT; split <;> decide
theorem strength_at (op : Bs) (i : Nat) (hi : i < 10) (hb : ∀ j, j < i → (rowW j).contains op = false) (h : (rowW i).contains op = true) : strength op = i + 1 := by
  have hk : i = 0 ∨ i = 1 ∨ i = 2 ∨ i = 3 ∨ i = 4 ∨ i = 5 ∨ i = 6 ∨ i = 7 ∨ i = 8 ∨ i = 9 := by omega
  rcases hk with rfl | rfl | rfl | rfl | rfl | rfl | rfl | rfl | rfl | rfl
  · simp [rowW] at h; subst h; decide
  · simp [rowW] at h; subst h; decide
  · simp [rowW] at h; subst h; decide
  · simp [rowW] at h; subst h; decide
  · simp [rowW] at h; subst h; decide
  · simp [rowW] at h; rcases h with rfl | rfl <;> decide
  · simp [rowW] at h; rcases h with rfl | rfl | rfl | rfl <;> decide
  · simp [rowW] at h; rcases h with rfl | rfl <;> decide
  · simp [rowW] at h; rcases h with rfl | rfl <;> decide
  · simp [rowW] at h; rcases h with rfl | rfl | rfl <;> decide
theorem strength_none (op : Bs) (hb : ∀ j, j < 10 → (rowW j).contains op = false) : strength op = 0 := by
  have h0 := hb 0 (by omega); have h1 := hb 1 (by omega); have h2 := hb 2 (by omega); have h3 := hb 3 (by omega); have h4 := hb 4 (by omega)
  have h5 := hb 5 (by omega); have h6 := hb 6 (by omega); have h7 := hb 7 (by omega); have h8 := hb 8 (by omega); have h9 := hb 9 (by omega)
  simp [rowW] at h0 h1 h2 h3 h4 h5 h6 h7 h8 h9
  simp [strength, *]
theorem strength_le (op : Bs) : strength op ≤ 10 := by
  unfold strength
  repeat' split
  all_goals omega

theorem contains_calls (l : List Bs) (x : Bs) (A : Option Addr) (c : Nat) (w : World) (hr : Kd.C Kd.string w A l.length (l.map mk)) (hc : l.length ≤ c) (hl : l.length ≤ 4611686018427387904) :
    Calls Tryz.prog 138 #[.slice A l.length c, .string (mk x)] w fun e w' => e = .returned (.bool (l.contains x)) ∧ Drawn0 w w' := by
  obtain ⟨k, hk⟩ := contains_eq l x hl
  have := slices_Contains_string_string.calls k A c (l.map mk) (mk x) _ w (by rw [List.length_map]; exact hr) (by rw [List.length_map]; exact hc) hk
  rwa [List.length_map] at this
theorem fields_calls (E : Nat → Addr) (i : Nat) (hi : i < 10) (w : World) (hE : Env E w) :
    Calls Tryz.prog 139 #[.string (mk (rowT i))] w fun e w' => e = .returned (.slice (some ⟨w.heap.size, 0, none⟩) (rowW i).length (rowW i).length) ∧ Kd.C Kd.string w' (some ⟨w.heap.size, 0, none⟩) (rowW i).length ((rowW i).map mk) ∧ Below w.heap.size w w' := by
  have ht : (mk (rowT i)).data.toList = rowT i := rfl
  refine (Tryz.strings_Fields (mk (rowT i)) w (by rw [mk_size]; unfold rowT; split <;> simp) (fun j b hb => row_ascii i b (List.mem_of_getElem? (by rw [← ht]; exact hb))) hE.tab).mono fun e w' ⟨he, hw⟩ => ?_
  rw [ht, row_fields i hi] at he hw
  subst hw
  refine ⟨he, ?_, below_alloc (Below.refl _ _) _⟩
  refine Kd.C_of_reads (d := ByteArray.empty) (h1 := fun _ => rfl) ⟨by simp, by (have : (rowW i).length ≤ 4 := by unfold rowW; split <;> simp) <;> omega, fun hn => ⟨_, rfl, fun j hj => ?_⟩⟩
  rw [add_plain, blk_cell (heap_alloc_new w _)]
  simp [mk, hj]
def rowsV : Value := .agg #[.string ⟨#[124, 124]⟩, .string ⟨#[38, 38]⟩, .string ⟨#[124]⟩, .string ⟨#[94]⟩, .string ⟨#[38]⟩, .string ⟨#[61, 61, 32, 33, 61]⟩, .string ⟨#[60, 32, 60, 61, 32, 62, 32, 62, 61]⟩, .string ⟨#[60, 60, 32, 62, 62]⟩, .string ⟨#[43, 32, 45]⟩, .string ⟨#[42, 32, 47, 32, 37]⟩]
theorem row_at0 (w : World) : (Instr.index 199 rowsV (.int .i64 0)).run Tryz.prog w = .ok (.string (mk (rowT 0))) w := by kernel_rfl
theorem row_at1 (w : World) : (Instr.index 199 rowsV (.int .i64 1)).run Tryz.prog w = .ok (.string (mk (rowT 1))) w := by kernel_rfl
theorem row_at2 (w : World) : (Instr.index 199 rowsV (.int .i64 2)).run Tryz.prog w = .ok (.string (mk (rowT 2))) w := by kernel_rfl
theorem row_at3 (w : World) : (Instr.index 199 rowsV (.int .i64 3)).run Tryz.prog w = .ok (.string (mk (rowT 3))) w := by kernel_rfl
theorem row_at4 (w : World) : (Instr.index 199 rowsV (.int .i64 4)).run Tryz.prog w = .ok (.string (mk (rowT 4))) w := by kernel_rfl
theorem row_at5 (w : World) : (Instr.index 199 rowsV (.int .i64 5)).run Tryz.prog w = .ok (.string (mk (rowT 5))) w := by kernel_rfl
theorem row_at6 (w : World) : (Instr.index 199 rowsV (.int .i64 6)).run Tryz.prog w = .ok (.string (mk (rowT 6))) w := by kernel_rfl
theorem row_at7 (w : World) : (Instr.index 199 rowsV (.int .i64 7)).run Tryz.prog w = .ok (.string (mk (rowT 7))) w := by kernel_rfl
theorem row_at8 (w : World) : (Instr.index 199 rowsV (.int .i64 8)).run Tryz.prog w = .ok (.string (mk (rowT 8))) w := by kernel_rfl
theorem row_at9 (w : World) : (Instr.index 199 rowsV (.int .i64 9)).run Tryz.prog w = .ok (.string (mk (rowT 9))) w := by kernel_rfl
theorem row_at (i : Nat) (hi : i < 10) (w : World) : (Instr.index 199 rowsV (.int .i64 (i : Int))).run Tryz.prog w = .ok (.string (mk (rowT i))) w := by
  have hk : i = 0 ∨ i = 1 ∨ i = 2 ∨ i = 3 ∨ i = 4 ∨ i = 5 ∨ i = 6 ∨ i = 7 ∨ i = 8 ∨ i = 9 := by omega
  rcases hk with rfl | rfl | rfl | rfl | rfl | rfl | rfl | rfl | rfl | rfl
  · exact row_at0 w
  · exact row_at1 w
  · exact row_at2 w
  · exact row_at3 w
  · exact row_at4 w
  · exact row_at5 w
  · exact row_at6 w
  · exact row_at7 w
  · exact row_at8 w
  · exact row_at9 w
set_option maxHeartbeats 4000000 in
set_option maxRecDepth 100000 in
theorem strength_calls (E : Nat → Addr) (op : Bs) (w : World) (hE : Env E w) :
    Calls Tryz.prog 120 #[.string (mk op)] w fun e w' => e = .returned (.int .i64 ((strength op : Int) - 1)) ∧ Below w.heap.size w w' := by
  have HE := Aside0.mk hE
  clear hE
  go_enter Tryz.func120, Tryz.ntmps120
  go_wp2_with fail
  go_loopw [4, 5, 8] (fun v4 v5 v8 wr => ∃ i : Nat, v8 = .int .i64 (i : Int) ∧ i ≤ 10 ∧ Aside0 (∀ j, j < i → (rowW j).contains op = false) ∧ Aside0 (Below w.heap.size w wr)) (fun _ _ v8 _ => 10 - (intOf v8).toNat)
  case atStart => exact ⟨0, rfl, by omega, ⟨fun j hj => absurd hj (by omega)⟩, ⟨below_alloc (Below.refl _ _) _⟩⟩
  case round =>
    obtain ⟨i, rfl, hi, HI, HB⟩ := hrel
    by_cases hi10 : i < 10
    · have hd : decide ((i : Int) < 10) = true := by simp; omega
      have hrow := row_at i hi10
      unfold rowsV at hrow
      go_wp2_with fail
      with_reducible refine (fields_calls E i hi10 _ (HE.out.below HB.out)).mono ?_
      rintro e w1 ⟨rfl, hC, hB1⟩
      have hsz := hB1.size
      go_wp2_with fail
      with_reducible refine (contains_calls (rowW i) op _ _ _ hC (Nat.le_refl _) (by have : (rowW i).length ≤ 4 := by { unfold rowW; split <;> simp } ; omega)).mono ?_
      rintro e w2 ⟨rfl, ⟨nd, rfl⟩⟩
      generalize hc : (rowW i).contains op = r
      have HCC := Aside0.mk hc
      have HB2 := Aside0.mk (below_then HB.out HB.out.size hB1)
      clear hc hB1 hC
      cases r with
      | true =>
        go_wp2_with fail
        go_ret
        exact ⟨by rw [strength_at op i hi10 HI.out HCC.out]; simp, pw_below_drewN HB2.out _⟩
      | false =>
        go_wp2_with fail
        go_roundw
        case rel =>
          refine ⟨i + 1, by go_num, by omega, ⟨fun j hj => ?_⟩, ⟨pw_below_drewN HB2.out _⟩⟩
          rcases Nat.lt_or_ge j i with h | h
          · exact HI.out j h
          · obtain rfl : j = i := by omega
            exact HCC.out
        case measure => simp [intOf]; omega
    · have hd : decide ((i : Int) < 10) = false := by simp; omega
      obtain rfl : i = 10 := by omega
      go_wp2_with fail
      go_ret
      exact ⟨by rw [strength_none op HI.out]; rfl, HB.out⟩
end Go.Proofs.YtjllmamblkejjaaGreatDoor
end

/- errors.As at the program's two wrapping types, and what fault.Is and fault.Tell come to. No conditions. -/
section
set_option linter.unusedVariables false
set_option linter.unusedSimpArgs false
namespace Go.Proofs.YtjllmamblkejjaaGreatDoor
open Go.RowKit Go.Extern.Stop Go.Stop Go.Extern Go.Proofs.YtjllmamblkejjaaGreatDoorW.PrintWords

theorem rlm (z : Sem Value) (f : TypeId → Addr → Nat → Nat → Sem Value) (v : Value) :
    ReflectliteValue.method z f #[v] = (do match ← ReflectliteValue.parts v with | none => z | some (t, a, fl) => f t a fl (fl % 32)) := rfl
theorem rls (v x : Value) : ReflectliteValue.set #[v, x] = (do
    let (some (dst, a, fl), some (src, b, _)) := (← ReflectliteValue.parts v, ← ReflectliteValue.parts x)
      | unsupported (.noEntry "extern/(internal/reflectlite.Value).Set.zeroValue")
    if fl / ReflectliteValue.flagAddr % 2 == 0 then unsupported (.noEntry "extern/(internal/reflectlite.Value).Set.unaddressable")
    let val ← loadVar src b
    if ← Rtype.directlyAssignable dst src then storeVar dst a val
    else if ← Rtype.implements dst src then
      if (← Rtype.kind src) == 20 then
        match val with
        | .nilIface => unsupported (.noEntry "extern/reflectlite: a nil value of one interface type handed on as a value of another")
        | _ => storeVar dst a val
      else storeVar dst a (.iface src val)
    else panicString ("reflectlite.Set: value of type " ++ (← Rtype.spelt src) ++ " is not assignable to type " ++ (← Rtype.spelt dst))
    pure (.tuple #[])) := rfl
theorem asMethod (h : Value) (w : World) (n : String) (f : Nat) (hf : (Go.method 363 165 (.agg #[h]) n).run Tryz.prog w = .ok (f, .agg #[h]) w) : True := trivial
theorem asKindM (h : Value) (w : World) : (Go.method 363 165 (.agg #[h]) "Kind").run Tryz.prog w = .ok (167, h) w := by kernel_rfl
theorem asElemM (h : Value) (w : World) : (Go.method 363 165 (.agg #[h]) "Elem").run Tryz.prog w = .ok (180, .agg #[h]) w := by kernel_rfl
theorem asImplM (h : Value) (w : World) : (Go.method 363 165 (.agg #[h]) "Implements").run Tryz.prog w = .ok (181, .agg #[h]) w := by kernel_rfl
theorem asAssM (h : Value) (w : World) : (Go.method 363 165 (.agg #[h]) "AssignableTo").run Tryz.prog w = .ok (178, .agg #[h]) w := by kernel_rfl
theorem noAsS (v : Value) (xT : TypeId) (w : World) : (Instr.typeAssert (.iface 99 v) xT 169 true).run Tryz.prog w = .ok (.tuple #[.nilIface, .bool false]) w := run_typeAssert_lacksB Tryz.underlying169 (by kernel_rfl) (by kernel_rfl) v xT w

/-! ### at the target 99 -/
theorem spvalueOfPP (t : Addr) (w : World) : (ReflectliteValue.unpack (.iface 100 (.pointer (some t)))).run Tryz.prog w = .ok (.agg #[.pointer (some ⟨25, 100, none⟩), .pointer (some ⟨w.heap.size, 0, none⟩), .int .u64 150]) (w.alloc (.cells #[.pointer (some t)] 100)) := by kernel_rfl
theorem sptypePP (a : Addr) (w : World) : (ReflectliteValue.methodAny (ReflectliteValue.valueError "reflectlite.Value.Type" 0) (fun t _ _ _ => ReflectliteType.toType t) #[.agg #[.pointer (some ⟨25, 100, none⟩), .pointer (some a), .int .u64 150]]).run Tryz.prog w = .ok (.iface 165 (.agg #[.pointer (some ⟨25, 100, none⟩)])) w := by kernel_rfl
theorem spkindPP (w : World) : ((ReflectliteType.abiMethod fun t => (fun a : Nat => Value.int IntKind.u8 (a : Int)) <$> Rtype.kind t) #[.pointer (some ⟨25, 100, none⟩)]).run Tryz.prog w = .ok (.int .u8 22) w := by kernel_rfl
theorem spkindP (w : World) : ((ReflectliteType.abiMethod fun t => (fun a : Nat => Value.int IntKind.u8 (a : Int)) <$> Rtype.kind t) #[.pointer (some ⟨25, 99, none⟩)]).run Tryz.prog w = .ok (.int .u8 22) w := by kernel_rfl
theorem sppartsPP (a : Addr) (w : World) : (ReflectliteValue.parts (.agg #[.pointer (some ⟨25, 100, none⟩), .pointer (some a), .int .u64 150])).run Tryz.prog w = .ok (some (100, a, 150)) w := by kernel_rfl
theorem spisNil (a p : Addr) (W : World) (ha : W.cell? a = some (.pointer (some p))) :
    (ReflectliteValue.method (ReflectliteValue.valueError "reflectlite.Value.IsNil" 0) ReflectliteValue.isNil #[.agg #[.pointer (some ⟨25, 100, none⟩), .pointer (some a), .int .u64 150]]).run Tryz.prog W = .ok (.bool false) W := by
  rw [rlm]
  simp only [Sem.run_bind, sppartsPP, Result.andThen]
  simp [ReflectliteValue.isNil, loadVar, isAgg, underlying, Tryz.underlying100, ha, Result.andThen]
theorem spelemT (w : World) : (ReflectliteType.method ReflectliteType.elem #[.agg #[.pointer (some ⟨25, 100, none⟩)]]).run Tryz.prog w = .ok (.iface 165 (.agg #[.pointer (some ⟨25, 99, none⟩)])) w := by kernel_rfl
theorem spimplT (w : World) : (ReflectliteType.relation "Implements" ReflectliteType.implements_ #[.agg #[.pointer (some ⟨25, 99, none⟩)], .iface 165 (.agg #[.pointer (some ⟨25, 27, none⟩)])]).run Tryz.prog w = .ok (.bool true) w := by kernel_rfl
theorem sptypeOf (v : Value) (w : World) : (ReflectliteType.typeOf #[.iface 99 v]).run Tryz.prog w = .ok (.iface 165 (.agg #[.pointer (some ⟨25, 99, none⟩)])) w := by kernel_rfl
theorem spassT (w : World) : (ReflectliteType.relation "AssignableTo" ReflectliteType.assignableTo #[.agg #[.pointer (some ⟨25, 99, none⟩)], .iface 165 (.agg #[.pointer (some ⟨25, 99, none⟩)])]).run Tryz.prog w = .ok (.bool true) w := by kernel_rfl
theorem spvalueOfP (e : Addr) (w : World) : (ReflectliteValue.unpack (.iface 99 (.pointer (some e)))).run Tryz.prog w = .ok (.agg #[.pointer (some ⟨25, 99, none⟩), .pointer (some ⟨w.heap.size, 0, none⟩), .int .u64 150]) (w.alloc (.cells #[.pointer (some e)] 99)) := by kernel_rfl
theorem spelemOf (w : World) : (Rtype.elem? 100).run Tryz.prog w = .ok (some 99) w := by kernel_rfl
theorem spmk (p : Addr) (w : World) : (ReflectliteValue.mk 99 p ReflectliteValue.flagAddr).run Tryz.prog w = .ok (.agg #[.pointer (some ⟨25, 99, none⟩), .pointer (some p), .int .u64 406]) w := by kernel_rfl
theorem spelemV (a p : Addr) (W : World) (ha : W.cell? a = some (.pointer (some p))) :
    (ReflectliteValue.method (ReflectliteValue.valueError "reflectlite.Value.Elem" 0) ReflectliteValue.elem #[.agg #[.pointer (some ⟨25, 100, none⟩), .pointer (some a), .int .u64 150]]).run Tryz.prog W
      = .ok (.agg #[.pointer (some ⟨25, 99, none⟩), .pointer (some p), .int .u64 406]) W := by
  rw [rlm]
  simp only [Sem.run_bind, sppartsPP, Result.andThen]
  simp [ReflectliteValue.elem, loadVar, isAgg, underlying, Tryz.underlying100, ha, Result.andThen, spelemOf, spmk]
theorem sppartsA (a : Addr) (w : World) : (ReflectliteValue.parts (.agg #[.pointer (some ⟨25, 99, none⟩), .pointer (some a), .int .u64 406])).run Tryz.prog w = .ok (some (99, a, 406)) w := by kernel_rfl
theorem sppartsB (a : Addr) (w : World) : (ReflectliteValue.parts (.agg #[.pointer (some ⟨25, 99, none⟩), .pointer (some a), .int .u64 150])).run Tryz.prog w = .ok (some (99, a, 150)) w := by kernel_rfl
theorem spdirect (w : World) : (Rtype.directlyAssignable 99 99).run Tryz.prog w = .ok true w := by kernel_rfl
theorem spset (ta b e : Addr) (old : Value) (W : World) (hb : W.cell? b = some (.pointer (some e))) (ht : W.cell? ta = some old) (hf : W.frozen? ta = false) :
    (ReflectliteValue.set #[.agg #[.pointer (some ⟨25, 99, none⟩), .pointer (some ta), .int .u64 406], .agg #[.pointer (some ⟨25, 99, none⟩), .pointer (some b), .int .u64 150]]).run Tryz.prog W
      = .ok (.tuple #[]) (W.setCell ta (.pointer (some e))) := by
  rw [rls]
  simp only [Sem.run_bind, sppartsA, sppartsB, Result.andThen]
  simp [ReflectliteValue.flagAddr, loadVar, isAgg, underlying, Tryz.underlying99, hb, Result.andThen, spdirect, storeVar, Value.cells, storeCells, Addr.add]
  rw [run_store Tryz.prog W ta _ _ (by rfl)]
  simp [ht, hf]

/-! ### at the target 94 -/
theorem plvalueOfPP (t : Addr) (w : World) : (ReflectliteValue.unpack (.iface 96 (.pointer (some t)))).run Tryz.prog w = .ok (.agg #[.pointer (some ⟨25, 96, none⟩), .pointer (some ⟨w.heap.size, 0, none⟩), .int .u64 150]) (w.alloc (.cells #[.pointer (some t)] 96)) := by kernel_rfl
theorem pltypePP (a : Addr) (w : World) : (ReflectliteValue.methodAny (ReflectliteValue.valueError "reflectlite.Value.Type" 0) (fun t _ _ _ => ReflectliteType.toType t) #[.agg #[.pointer (some ⟨25, 96, none⟩), .pointer (some a), .int .u64 150]]).run Tryz.prog w = .ok (.iface 165 (.agg #[.pointer (some ⟨25, 96, none⟩)])) w := by kernel_rfl
theorem plkindPP (w : World) : ((ReflectliteType.abiMethod fun t => (fun a : Nat => Value.int IntKind.u8 (a : Int)) <$> Rtype.kind t) #[.pointer (some ⟨25, 96, none⟩)]).run Tryz.prog w = .ok (.int .u8 22) w := by kernel_rfl
theorem plkindP (w : World) : ((ReflectliteType.abiMethod fun t => (fun a : Nat => Value.int IntKind.u8 (a : Int)) <$> Rtype.kind t) #[.pointer (some ⟨25, 94, none⟩)]).run Tryz.prog w = .ok (.int .u8 22) w := by kernel_rfl
theorem plpartsPP (a : Addr) (w : World) : (ReflectliteValue.parts (.agg #[.pointer (some ⟨25, 96, none⟩), .pointer (some a), .int .u64 150])).run Tryz.prog w = .ok (some (96, a, 150)) w := by kernel_rfl
theorem plisNil (a p : Addr) (W : World) (ha : W.cell? a = some (.pointer (some p))) :
    (ReflectliteValue.method (ReflectliteValue.valueError "reflectlite.Value.IsNil" 0) ReflectliteValue.isNil #[.agg #[.pointer (some ⟨25, 96, none⟩), .pointer (some a), .int .u64 150]]).run Tryz.prog W = .ok (.bool false) W := by
  rw [rlm]
  simp only [Sem.run_bind, plpartsPP, Result.andThen]
  simp [ReflectliteValue.isNil, loadVar, isAgg, underlying, Tryz.underlying96, ha, Result.andThen]
theorem plelemT (w : World) : (ReflectliteType.method ReflectliteType.elem #[.agg #[.pointer (some ⟨25, 96, none⟩)]]).run Tryz.prog w = .ok (.iface 165 (.agg #[.pointer (some ⟨25, 94, none⟩)])) w := by kernel_rfl
theorem plimplT (w : World) : (ReflectliteType.relation "Implements" ReflectliteType.implements_ #[.agg #[.pointer (some ⟨25, 94, none⟩)], .iface 165 (.agg #[.pointer (some ⟨25, 27, none⟩)])]).run Tryz.prog w = .ok (.bool true) w := by kernel_rfl
theorem pltypeOf (v : Value) (w : World) : (ReflectliteType.typeOf #[.iface 94 v]).run Tryz.prog w = .ok (.iface 165 (.agg #[.pointer (some ⟨25, 94, none⟩)])) w := by kernel_rfl
theorem plassT (w : World) : (ReflectliteType.relation "AssignableTo" ReflectliteType.assignableTo #[.agg #[.pointer (some ⟨25, 94, none⟩)], .iface 165 (.agg #[.pointer (some ⟨25, 94, none⟩)])]).run Tryz.prog w = .ok (.bool true) w := by kernel_rfl
theorem plvalueOfP (e : Addr) (w : World) : (ReflectliteValue.unpack (.iface 94 (.pointer (some e)))).run Tryz.prog w = .ok (.agg #[.pointer (some ⟨25, 94, none⟩), .pointer (some ⟨w.heap.size, 0, none⟩), .int .u64 150]) (w.alloc (.cells #[.pointer (some e)] 94)) := by kernel_rfl
theorem plelemOf (w : World) : (Rtype.elem? 96).run Tryz.prog w = .ok (some 94) w := by kernel_rfl
theorem plmk (p : Addr) (w : World) : (ReflectliteValue.mk 94 p ReflectliteValue.flagAddr).run Tryz.prog w = .ok (.agg #[.pointer (some ⟨25, 94, none⟩), .pointer (some p), .int .u64 406]) w := by kernel_rfl
theorem plelemV (a p : Addr) (W : World) (ha : W.cell? a = some (.pointer (some p))) :
    (ReflectliteValue.method (ReflectliteValue.valueError "reflectlite.Value.Elem" 0) ReflectliteValue.elem #[.agg #[.pointer (some ⟨25, 96, none⟩), .pointer (some a), .int .u64 150]]).run Tryz.prog W
      = .ok (.agg #[.pointer (some ⟨25, 94, none⟩), .pointer (some p), .int .u64 406]) W := by
  rw [rlm]
  simp only [Sem.run_bind, plpartsPP, Result.andThen]
  simp [ReflectliteValue.elem, loadVar, isAgg, underlying, Tryz.underlying96, ha, Result.andThen, plelemOf, plmk]
theorem plpartsA (a : Addr) (w : World) : (ReflectliteValue.parts (.agg #[.pointer (some ⟨25, 94, none⟩), .pointer (some a), .int .u64 406])).run Tryz.prog w = .ok (some (94, a, 406)) w := by kernel_rfl
theorem plpartsB (a : Addr) (w : World) : (ReflectliteValue.parts (.agg #[.pointer (some ⟨25, 94, none⟩), .pointer (some a), .int .u64 150])).run Tryz.prog w = .ok (some (94, a, 150)) w := by kernel_rfl
theorem pldirect (w : World) : (Rtype.directlyAssignable 94 94).run Tryz.prog w = .ok true w := by kernel_rfl
theorem plset (ta b e : Addr) (old : Value) (W : World) (hb : W.cell? b = some (.pointer (some e))) (ht : W.cell? ta = some old) (hf : W.frozen? ta = false) :
    (ReflectliteValue.set #[.agg #[.pointer (some ⟨25, 94, none⟩), .pointer (some ta), .int .u64 406], .agg #[.pointer (some ⟨25, 94, none⟩), .pointer (some b), .int .u64 150]]).run Tryz.prog W
      = .ok (.tuple #[]) (W.setCell ta (.pointer (some e))) := by
  rw [rls]
  simp only [Sem.run_bind, plpartsA, plpartsB, Result.andThen]
  simp [ReflectliteValue.flagAddr, loadVar, isAgg, underlying, Tryz.underlying94, hb, Result.andThen, pldirect, storeVar, Value.cells, storeCells, Addr.add]
  rw [run_store Tryz.prog W ta _ _ (by rfl)]
  simp [ht, hf]

theorem asNotT (w : World) : (ReflectliteType.relation "AssignableTo" ReflectliteType.assignableTo #[.agg #[.pointer (some ⟨25, 99, none⟩)], .iface 165 (.agg #[.pointer (some ⟨25, 94, none⟩)])]).run Tryz.prog w = .ok (.bool false) w := by kernel_rfl

set_option maxHeartbeats 4000000 in
set_option maxRecDepth 100000 in
theorem as_spoken (e t : Addr) (old : Value) (w : World)  (hg : w.cell? ⟨10, 0, none⟩ = some (.iface 165 (.agg #[.pointer (some ⟨25, 27, none⟩)]))) (ht0 : w.cell? t = some old) (hf0 : w.frozen? t = false) :
    Calls Tryz.prog 46 #[.iface 99 (.pointer (some e)), .iface 100 (.pointer (some t))] w fun ev w' => ev = .returned (.bool true) ∧ ((((w.alloc (.cells #[.pointer (some t)] 100)).alloc (.cells #[.pointer (some ⟨25, 100, none⟩), .pointer (some ⟨w.heap.size, 0, none⟩), .int .u64 150] 131)).alloc (.cells #[.pointer (some ⟨25, 100, none⟩), .pointer (some ⟨w.heap.size, 0, none⟩), .int .u64 150] 131)).alloc (.cells #[.pointer (some e)] 99)).setCell t (.pointer (some e)) = w' := by
  have h6 := @run_callFunc_extern Tryz.prog 71 _ (fun args => ReflectliteValue.unpack (args.getD 0 (.tuple #[]))) Tryz.func71 (by kernel_rfl) (by kernel_rfl) (by kernel_rfl) (by kernel_rfl)
  have h7 := @run_callFunc_extern Tryz.prog 72 _ (ReflectliteValue.methodAny (ReflectliteValue.valueError "reflectlite.Value.Type" 0) (fun t _ _ _ => ReflectliteType.toType t)) Tryz.func72 (by kernel_rfl) (by kernel_rfl) (by kernel_rfl) (by kernel_rfl)
  have h8 := @run_callFunc_extern Tryz.prog 73 _ (ReflectliteValue.method (ReflectliteValue.valueError "reflectlite.Value.IsNil" 0) ReflectliteValue.isNil) Tryz.func73 (by kernel_rfl) (by kernel_rfl) (by kernel_rfl) (by kernel_rfl)
  have h27 := @run_callFunc_extern Tryz.prog 167 _ (ReflectliteType.abiMethod fun t => do pure (.int .u8 (← Rtype.kind t))) Tryz.func167 (by kernel_rfl) (by kernel_rfl) (by kernel_rfl) (by kernel_rfl)
  have h37 := @run_callFunc_extern Tryz.prog 180 _ (ReflectliteType.method ReflectliteType.elem) Tryz.func180 (by kernel_rfl) (by kernel_rfl) (by kernel_rfl) (by kernel_rfl)
  have h38 := @run_callFunc_extern Tryz.prog 181 _ (ReflectliteType.relation "Implements" ReflectliteType.implements_) Tryz.func181 (by kernel_rfl) (by kernel_rfl) (by kernel_rfl) (by kernel_rfl)
  have h10 := @run_callFunc_extern Tryz.prog 103 _ ReflectliteType.typeOf Tryz.func103 (by kernel_rfl) (by kernel_rfl) (by kernel_rfl) (by kernel_rfl)
  have h35 := @run_callFunc_extern Tryz.prog 178 _ (ReflectliteType.relation "AssignableTo" ReflectliteType.assignableTo) Tryz.func178 (by kernel_rfl) (by kernel_rfl) (by kernel_rfl) (by kernel_rfl)
  have h11 := @run_callFunc_extern Tryz.prog 105 _ (ReflectliteValue.method (ReflectliteValue.valueError "reflectlite.Value.Elem" 0) ReflectliteValue.elem) Tryz.func105 (by kernel_rfl) (by kernel_rfl) (by kernel_rfl) (by kernel_rfl)
  have h12 := @run_callFunc_extern Tryz.prog 106 _ ReflectliteValue.set Tryz.func106 (by kernel_rfl) (by kernel_rfl) (by kernel_rfl) (by kernel_rfl)
  have tO := sptypeOf
  have mA := asAssM
  have a25 := spassT
  have v25 := spvalueOfP
  have f6 := spvalueOfPP
  have f7 := sptypePP
  have mK := asKindM
  have mE := asElemM
  have mI := asImplM
  have k27 := spkindPP
  have k25 := spkindP
  have e27 := spelemT
  have i25 := spimplT
  have n8 := spisNil ⟨w.heap.size, 0, none⟩ t (((w.alloc (.cells #[.pointer (some t)] 100)).alloc (.cells #[.pointer (some ⟨25, 100, none⟩), .pointer (some ⟨w.heap.size, 0, none⟩), .int .u64 150] 131))) (by simp)
  have hlt : 10 < w.heap.size := World.block_lt_of_cell? w _ hg
  have hg2 : (((w.alloc (.cells #[.pointer (some t)] 100)).alloc (.cells #[.pointer (some ⟨25, 100, none⟩), .pointer (some ⟨w.heap.size, 0, none⟩), .int .u64 150] 131))).cell? ⟨10, 0, none⟩ = some (.iface 165 (.agg #[.pointer (some ⟨25, 27, none⟩)])) := by
    rw [World.cell?_alloc_lt _ _ _ (show 10 < _ by simp; omega), World.cell?_alloc_lt _ _ _ hlt]; exact hg
  have htl := World.block_lt_of_cell? w _ ht0
  have el := spelemV ⟨w.heap.size, 0, none⟩ t ((((w.alloc (.cells #[.pointer (some t)] 100)).alloc (.cells #[.pointer (some ⟨25, 100, none⟩), .pointer (some ⟨w.heap.size, 0, none⟩), .int .u64 150] 131)).alloc (.cells #[.pointer (some ⟨25, 100, none⟩), .pointer (some ⟨w.heap.size, 0, none⟩), .int .u64 150] 131))) (by rw [World.cell?_alloc_lt _ _ ⟨w.heap.size, 0, none⟩ (by simp; omega)]; simp)
  have st := spset t ⟨w.heap.size + 1 + 1 + 1, 0, none⟩ e old (((((w.alloc (.cells #[.pointer (some t)] 100)).alloc (.cells #[.pointer (some ⟨25, 100, none⟩), .pointer (some ⟨w.heap.size, 0, none⟩), .int .u64 150] 131)).alloc (.cells #[.pointer (some ⟨25, 100, none⟩), .pointer (some ⟨w.heap.size, 0, none⟩), .int .u64 150] 131)).alloc (.cells #[.pointer (some e)] 99)))
    (by rw [World.cell?_alloc_at _ _ _ _ (by simp)]; rfl)
    (by rw [World.cell?_alloc_lt _ _ t (by simp; omega), World.cell?_alloc_lt _ _ t (by simp; omega), World.cell?_alloc_lt _ _ t (by simp; omega), World.cell?_alloc_lt _ _ t htl]; exact ht0)
    (by rw [World.frozen?_alloc_old _ _ t (by simp; omega), World.frozen?_alloc_old _ _ t (by simp; omega), World.frozen?_alloc_old _ _ t (by simp; omega), World.frozen?_alloc_old _ _ t (Nat.ne_of_lt htl)]; exact hf0)
  go_enter Tryz.func46, Tryz.ntmps46
  go_wp2
  refine wp_loop_rounds 1 ?_
  rw [rounds_succ]
  go_wp2
  go_ret
  exact ⟨rfl, rfl⟩

set_option maxHeartbeats 4000000 in
set_option maxRecDepth 100000 in
theorem as_placed (e t : Addr) (old : Value) (w : World) (s : Nat) (hs : w.cell? ⟨s, 0, none⟩ = some (.iface 94 (.pointer (some e)))) (hg : w.cell? ⟨10, 0, none⟩ = some (.iface 165 (.agg #[.pointer (some ⟨25, 27, none⟩)]))) (ht0 : w.cell? t = some old) (hf0 : w.frozen? t = false) :
    Calls Tryz.prog 46 #[.iface 99 (.pointer (some ⟨s, 0, none⟩)), .iface 96 (.pointer (some t))] w fun ev w' => ev = .returned (.bool true) ∧ ((((w.alloc (.cells #[.pointer (some t)] 96)).alloc (.cells #[.pointer (some ⟨25, 96, none⟩), .pointer (some ⟨w.heap.size, 0, none⟩), .int .u64 150] 131)).alloc (.cells #[.pointer (some ⟨25, 96, none⟩), .pointer (some ⟨w.heap.size, 0, none⟩), .int .u64 150] 131)).alloc (.cells #[.pointer (some e)] 94)).setCell t (.pointer (some e)) = w' := by
  have h6 := @run_callFunc_extern Tryz.prog 71 _ (fun args => ReflectliteValue.unpack (args.getD 0 (.tuple #[]))) Tryz.func71 (by kernel_rfl) (by kernel_rfl) (by kernel_rfl) (by kernel_rfl)
  have h7 := @run_callFunc_extern Tryz.prog 72 _ (ReflectliteValue.methodAny (ReflectliteValue.valueError "reflectlite.Value.Type" 0) (fun t _ _ _ => ReflectliteType.toType t)) Tryz.func72 (by kernel_rfl) (by kernel_rfl) (by kernel_rfl) (by kernel_rfl)
  have h8 := @run_callFunc_extern Tryz.prog 73 _ (ReflectliteValue.method (ReflectliteValue.valueError "reflectlite.Value.IsNil" 0) ReflectliteValue.isNil) Tryz.func73 (by kernel_rfl) (by kernel_rfl) (by kernel_rfl) (by kernel_rfl)
  have h27 := @run_callFunc_extern Tryz.prog 167 _ (ReflectliteType.abiMethod fun t => do pure (.int .u8 (← Rtype.kind t))) Tryz.func167 (by kernel_rfl) (by kernel_rfl) (by kernel_rfl) (by kernel_rfl)
  have h37 := @run_callFunc_extern Tryz.prog 180 _ (ReflectliteType.method ReflectliteType.elem) Tryz.func180 (by kernel_rfl) (by kernel_rfl) (by kernel_rfl) (by kernel_rfl)
  have h38 := @run_callFunc_extern Tryz.prog 181 _ (ReflectliteType.relation "Implements" ReflectliteType.implements_) Tryz.func181 (by kernel_rfl) (by kernel_rfl) (by kernel_rfl) (by kernel_rfl)
  have h10 := @run_callFunc_extern Tryz.prog 103 _ ReflectliteType.typeOf Tryz.func103 (by kernel_rfl) (by kernel_rfl) (by kernel_rfl) (by kernel_rfl)
  have h35 := @run_callFunc_extern Tryz.prog 178 _ (ReflectliteType.relation "AssignableTo" ReflectliteType.assignableTo) Tryz.func178 (by kernel_rfl) (by kernel_rfl) (by kernel_rfl) (by kernel_rfl)
  have h11 := @run_callFunc_extern Tryz.prog 105 _ (ReflectliteValue.method (ReflectliteValue.valueError "reflectlite.Value.Elem" 0) ReflectliteValue.elem) Tryz.func105 (by kernel_rfl) (by kernel_rfl) (by kernel_rfl) (by kernel_rfl)
  have h12 := @run_callFunc_extern Tryz.prog 106 _ ReflectliteValue.set Tryz.func106 (by kernel_rfl) (by kernel_rfl) (by kernel_rfl) (by kernel_rfl)
  have tO := pltypeOf
  have mA := asAssM
  have a25 := plassT
  have v25 := plvalueOfP
  have f6 := plvalueOfPP
  have f7 := pltypePP
  have mK := asKindM
  have mE := asElemM
  have mI := asImplM
  have k27 := plkindPP
  have k25 := plkindP
  have e27 := plelemT
  have i25 := plimplT
  have n8 := plisNil ⟨w.heap.size, 0, none⟩ t (((w.alloc (.cells #[.pointer (some t)] 96)).alloc (.cells #[.pointer (some ⟨25, 96, none⟩), .pointer (some ⟨w.heap.size, 0, none⟩), .int .u64 150] 131))) (by simp)
  have hlt : 10 < w.heap.size := World.block_lt_of_cell? w _ hg
  have hg2 : (((w.alloc (.cells #[.pointer (some t)] 96)).alloc (.cells #[.pointer (some ⟨25, 96, none⟩), .pointer (some ⟨w.heap.size, 0, none⟩), .int .u64 150] 131))).cell? ⟨10, 0, none⟩ = some (.iface 165 (.agg #[.pointer (some ⟨25, 27, none⟩)])) := by
    rw [World.cell?_alloc_lt _ _ _ (show 10 < _ by simp; omega), World.cell?_alloc_lt _ _ _ hlt]; exact hg
  have htl := World.block_lt_of_cell? w _ ht0
  have el := plelemV ⟨w.heap.size, 0, none⟩ t ((((w.alloc (.cells #[.pointer (some t)] 96)).alloc (.cells #[.pointer (some ⟨25, 96, none⟩), .pointer (some ⟨w.heap.size, 0, none⟩), .int .u64 150] 131)).alloc (.cells #[.pointer (some ⟨25, 96, none⟩), .pointer (some ⟨w.heap.size, 0, none⟩), .int .u64 150] 131))) (by rw [World.cell?_alloc_lt _ _ ⟨w.heap.size, 0, none⟩ (by simp; omega)]; simp)
  have st := plset t ⟨w.heap.size + 1 + 1 + 1, 0, none⟩ e old (((((w.alloc (.cells #[.pointer (some t)] 96)).alloc (.cells #[.pointer (some ⟨25, 96, none⟩), .pointer (some ⟨w.heap.size, 0, none⟩), .int .u64 150] 131)).alloc (.cells #[.pointer (some ⟨25, 96, none⟩), .pointer (some ⟨w.heap.size, 0, none⟩), .int .u64 150] 131)).alloc (.cells #[.pointer (some e)] 94)))
    (by rw [World.cell?_alloc_at _ _ _ _ (by simp)]; rfl)
    (by rw [World.cell?_alloc_lt _ _ t (by simp; omega), World.cell?_alloc_lt _ _ t (by simp; omega), World.cell?_alloc_lt _ _ t (by simp; omega), World.cell?_alloc_lt _ _ t htl]; exact ht0)
    (by rw [World.frozen?_alloc_old _ _ t (by simp; omega), World.frozen?_alloc_old _ _ t (by simp; omega), World.frozen?_alloc_old _ _ t (by simp; omega), World.frozen?_alloc_old _ _ t (Nat.ne_of_lt htl)]; exact hf0)
  have tS := sptypeOf
  have nA := noAsS
  have aS := asNotT
  have uS := Tryz.hasUnwrapS
  have mS := Tryz.methodUnwrapS
  have hsl : s < w.heap.size := World.block_lt_of_cell? w _ hs
  have hs3 : ((((w.alloc (.cells #[.pointer (some t)] 96)).alloc (.cells #[.pointer (some ⟨25, 96, none⟩), .pointer (some ⟨w.heap.size, 0, none⟩), .int .u64 150] 131)).alloc (.cells #[.pointer (some ⟨25, 96, none⟩), .pointer (some ⟨w.heap.size, 0, none⟩), .int .u64 150] 131))).cell? ⟨s, 0, none⟩ = some (.iface 94 (.pointer (some e))) := by
    rw [World.cell?_alloc_lt _ _ _ (show s < _ by simp; omega), World.cell?_alloc_lt _ _ _ (show s < _ by simp; omega), World.cell?_alloc_lt _ _ _ hsl]; exact hs
  go_enter Tryz.func46, Tryz.ntmps46
  go_wp2
  refine wp_loop_rounds 2 ?_
  rw [rounds_succ]
  go_wp2
  rw [rounds_succ]
  go_wp2
  go_ret
  exact ⟨rfl, rfl⟩
end Go.Proofs.YtjllmamblkejjaaGreatDoor
end

/- What fault.Is and fault.Tell come to at an error of the program's own make. No conditions. -/
section
set_option linter.unusedVariables false
set_option linter.unusedSimpArgs false
namespace Go.Proofs.YtjllmamblkejjaaGreatDoor
open Go.RowKit Go.Extern.Stop Go.Stop Go.Extern Go.Proofs.YtjllmamblkejjaaGreatDoorW.PrintWords

theorem grown_of (w W : World) (b : Nat) (u : Value) (hB : Below w.heap.size w W) : w.grownBy (W.setCell ⟨b, 0, none⟩ u) (some b) :=
  ⟨hB.os, hB.tape, hB.output, by simpa [World.setCell] using hB.size, fun i hi hne => (Below.heap_setCell W ⟨b, 0, none⟩ u i (fun e => hne (by rw [e]))).trans (hB.block i hi)⟩
theorem as_spoken_any (E : Nat → Addr) (w : World) (hE : Env E w) (s b : Nat) (hb : w.heap[b]? = some (.cells #[.pointer none] 99 (0, 0))) :
    Calls Tryz.prog 46 #[.iface 99 (.pointer (some ⟨s, 0, none⟩)), .iface 100 (.pointer (some ⟨b, 0, none⟩))] w fun ev w' => ev = .returned (.bool true) ∧ w'.heap[b]? = some (.cells #[.pointer (some ⟨s, 0, none⟩)] 99 (0, 0)) ∧ w.grownBy w' (some b) :=
  (as_spoken ⟨s, 0, none⟩ ⟨b, 0, none⟩ (.pointer none) w hE.et ((blk_cell hb 0).trans rfl) (blk_frozen hb 0)).mono fun e w' ⟨he, hw⟩ => by
    subst hw
    have hB := below_alloc (below_alloc (below_alloc (below_alloc (Below.refl w.heap.size w) (.cells #[.pointer (some ⟨b, 0, none⟩)] 100)) (.cells #[.pointer (some ⟨25, 100, none⟩), .pointer (some ⟨w.heap.size, 0, none⟩), .int .u64 150] 131)) (.cells #[.pointer (some ⟨25, 100, none⟩), .pointer (some ⟨w.heap.size, 0, none⟩), .int .u64 150] 131)) (.cells #[.pointer (some ⟨s, 0, none⟩)] 99)
    exact ⟨he, blk_set ((hB.block b (blk_lt hb)).trans hb) 0 _, grown_of w _ b _ hB⟩
theorem as_placed_any (E : Nat → Addr) (w : World) (hE : Env E w) (s p b : Nat) (hs : w.cell? ⟨s, 0, none⟩ = some (.iface 94 (.pointer (some ⟨p, 0, none⟩)))) (hb : w.heap[b]? = some (.cells #[.pointer none] 94 (0, 0))) :
    Calls Tryz.prog 46 #[.iface 99 (.pointer (some ⟨s, 0, none⟩)), .iface 96 (.pointer (some ⟨b, 0, none⟩))] w fun ev w' => ev = .returned (.bool true) ∧ w'.heap[b]? = some (.cells #[.pointer (some ⟨p, 0, none⟩)] 94 (0, 0)) ∧ w.grownBy w' (some b) :=
  (as_placed ⟨p, 0, none⟩ ⟨b, 0, none⟩ (.pointer none) w s hs hE.et ((blk_cell hb 0).trans rfl) (blk_frozen hb 0)).mono fun e w' ⟨he, hw⟩ => by
    subst hw
    have hB := below_alloc (below_alloc (below_alloc (below_alloc (Below.refl w.heap.size w) (.cells #[.pointer (some ⟨b, 0, none⟩)] 96)) (.cells #[.pointer (some ⟨25, 96, none⟩), .pointer (some ⟨w.heap.size, 0, none⟩), .int .u64 150] 131)) (.cells #[.pointer (some ⟨25, 96, none⟩), .pointer (some ⟨w.heap.size, 0, none⟩), .int .u64 150] 131)) (.cells #[.pointer (some ⟨p, 0, none⟩)] 94)
    exact ⟨he, blk_set ((hB.block b (blk_lt hb)).trans hb) 0 _, grown_of w _ b _ hB⟩

set_option maxHeartbeats 4000000 in
theorem is_calls (E : Nat → Addr) (w : World) (hE : Env E w) (v : Value) (code pos lang j : Nat) (hv : ErrV E w v code pos lang) (h1 : 1 ≤ code) (h2 : code ≤ 21) (j1 : 1 ≤ j) (j2 : j ≤ 21) :
    Calls Tryz.prog 45 #[v, .int .i64 (j : Int)] w fun e w' => e = .returned (.bool (decide (j = code))) ∧ w = w' := by
  have hx := hv
  obtain ⟨s, p, rfl, _⟩ := hx
  have HE := Aside0.mk hE
  have HV := Aside0.mk hv
  clear hE hv
  go_enter Tryz.func45, Tryz.ntmps45
  go_wp2_with fail
  with_reducible refine (of_calls E j _ HE.out j1 j2).mono ?_
  rintro e w' ⟨rfl, rfl⟩
  go_wp2_with fail
  with_reducible refine (errors_is E _ HE.out _ code pos lang j HV.out h1 h2 j1 j2).mono ?_
  rintro e w' ⟨rfl, rfl⟩
  generalize hr : decide (j = code) = r
  have HR := Aside0.mk hr
  clear hr
  go_wp2_with fail
  go_ret
  exact ⟨by rw [HR.out]; rfl, rfl⟩
theorem tell_nil (w : World) : Calls Tryz.prog 21 #[.nilIface] w fun e w' => e = .returned (.agg #[.int .i64 0, .int .i64 0, .int .i64 0]) ∧ Below w.heap.size w w' := by
  go_enter Tryz.func21, Tryz.ntmps21
  go_wp2_with fail
  refine bodyPost_ret (v := .agg #[.int .i64 0, .int .i64 0, .int .i64 0]) (by simp [results, Tryz.results21, go_sem]) rfl ⟨rfl, ?_⟩
  exact below_alloc (Below.refl _ _) _

set_option maxHeartbeats 8000000 in
set_option maxRecDepth 100000 in
theorem tell_calls (E : Nat → Addr) (w : World) (hE : Env E w) (v : Value) (code pos lang : Nat) (hv : ErrV E w v code pos lang) (h1 : 1 ≤ code) (h2 : code ≤ 21) :
    Calls Tryz.prog 21 #[v] w fun e w' => e = .returned (.agg #[.int .i64 (code : Int), .int .i64 (pos : Int), .int .i64 (lang : Int)]) ∧ Below w.heap.size w w' := by
  have hx := hv
  obtain ⟨s, p, rfl, hs, hp⟩ := hx
  have HS := Aside0.mk hs
  have HP := Aside0.mk hp
  have hsl := blk_lt hs
  have hpl := blk_lt hp
  have HE := Aside0.mk hE
  have HV := Aside0.mk hv
  clear hE hv hs hp
  go_enter Tryz.func21, Tryz.ntmps21
  go_wp2_with fail
  go_loopw [4] (fun v4 wr => ∃ c : Nat, v4 = .int .i64 (c : Int) ∧ c ≤ 21 ∧ Aside0 (Below w.heap.size w wr) ∧ Aside0 (wr.heap[w.heap.size]? = some (.cells #[.int .i64 0, .int .i64 0, .int .i64 0] 47 (0, 0))) ∧ Aside0 (wr.heap[w.heap.size + 1]? = some (.cells #[.int .i64 (if c < code then (code : Int) else 22), .int .i64 0, .int .i64 0] 47 (0, 0)))) (fun v4 _ => (intOf v4).toNat)
  case atStart =>
    refine ⟨21, rfl, by omega, ⟨below_alloc (below_alloc (Below.refl _ _) _) _⟩, ⟨new0 w _ _ 0⟩, ⟨?_⟩⟩
    rw [if_neg (by omega)]
    exact new1 w _ _ 0
  case round =>
    obtain ⟨c, rfl, hc, HB, H0, H1⟩ := hrel
    by_cases hpos : 1 ≤ c
    · have hd : decide ((1 : Int) ≤ (c : Int)) = true := by simp; omega
      have hge : decide ((c : Int) ≥ 1) = true := by simp; omega
      have hk1 := (blk_cell H1.out 0).trans rfl
      have hf1 := blk_frozen H1.out 0
      go_wp2_with fail
      with_reducible refine (is_calls E _ (HE.out.below HB.out) _ code pos lang c (HV.out.below HB.out) h1 h2 hpos hc).mono ?_
      rintro e w' ⟨rfl, rfl⟩
      by_cases he : c = code
      · subst he
        simp only [decide_true]
        go_wp2_with fail
        go_roundw
        case rel =>
          refine ⟨c - 1, by rw [show ((c - 1 : Nat) : Int) = (c : Int) - 1 by omega], by omega, ⟨HB.out.setCell (by simp) _⟩, ⟨(Below.heap_setCell _ _ _ _ (by simp)).trans H0.out⟩, ⟨?_⟩⟩
          rw [if_pos (by omega)]
          simpa using blk_set H1.out 0 (.int .i64 (c : Int))
        case measure => simp [intOf]; omega
      · have hdf : decide (c = code) = false := decide_eq_false he
        rw [hdf]
        clear hdf
        have HN := Aside0.mk he
        clear he
        go_wp2_with fail
        go_roundw
        case rel =>
          refine ⟨c - 1, by rw [show ((c - 1 : Nat) : Int) = (c : Int) - 1 by omega], by omega, HB, H0, ⟨?_⟩⟩
          have hn := HN.out
          rw [show (if c - 1 < code then (code : Int) else 22) = (if c < code then (code : Int) else 22) by split <;> split <;> omega]
          exact H1.out
        case measure => simp [intOf]; omega
    · have hd : decide ((1 : Int) ≤ (c : Int)) = false := by simp; omega
      have hge : decide ((c : Int) ≥ 1) = false := by simp; omega
      obtain rfl : c = 0 := by omega
      rw [if_pos (by omega)] at H1
      go_wp2_with fail
      have hsz : w.heap.size + 1 < wr.heap.size := blk_lt H1.out
      have hB1 : Below w.heap.size w (wr.alloc (.cells #[.pointer none] 94)) := below_alloc HB.out _
      have hs1 := (hB1.block s hsl).trans HS.out
      with_reducible refine (as_placed_any E _ (HE.out.below hB1) s p wr.heap.size ((blk_cell hs1 0).trans rfl) (heap_alloc_new _ _)).mono ?_
      rintro e W1 ⟨rfl, hb1, hg1⟩
      have hB2 : Below w.heap.size w W1 := hB1.grown hg1 (by simp; omega) (fun k hk => by cases hk; omega)
      have h02 : W1.heap[w.heap.size]? = _ := (hg1.block w.heap.size (by simp; omega) (by simp; omega)).trans ((Below.heap_alloc _ _ _ (by omega)).trans H0.out)
      have h12 : W1.heap[w.heap.size + 1]? = _ := (hg1.block (w.heap.size + 1) (by simp; omega) (by simp; omega)).trans ((Below.heap_alloc _ _ _ (by omega)).trans H1.out)
      have hs2 := (hB2.block s hsl).trans HS.out
      have hp2 := (hB2.block p hpl).trans HP.out
      have hsz1 := hg1.size
      simp only [World.size_alloc] at hsz1
      have hc1 : W1.cell? ⟨wr.heap.size, 0, none⟩ = some (.pointer (some ⟨p, 0, none⟩)) := (blk_cell hb1 0).trans rfl
      have hc2 : W1.cell? ⟨p, 1, none⟩ = some (.int .i64 (pos : Int)) := (blk_cell hp2 1).trans rfl
      have hc3 : W1.cell? ⟨w.heap.size + 1, 1, none⟩ = some (.int .i64 0) := (blk_cell h12 1).trans rfl
      have hc4 := blk_frozen h12 1
      have H02 := Aside0.mk h02
      have H12 := Aside0.mk h12
      have HS2 := Aside0.mk hs2
      have HP2 := Aside0.mk hp2
      have HB2 := Aside0.mk hB2
      have HB11 := Aside0.mk hb1
      clear h02 h12 hs2 hp2 hB2 hb1 hg1 hs1 hB1
      go_wp2_with fail
      clear hc1 hc2 hc3 hc4
      have hB3 : Below w.heap.size w (W1.setCell ⟨w.heap.size + 1, 1, none⟩ (.int .i64 (pos : Int))) := HB2.out.setCell (by simp) _
      have hz3 : (W1.setCell ⟨w.heap.size + 1, 1, none⟩ (.int .i64 (pos : Int))).heap.size = W1.heap.size := by simp [World.setCell]
      have h03 := (Below.heap_setCell W1 ⟨w.heap.size + 1, 1, none⟩ (.int .i64 (pos : Int)) w.heap.size (by simp)).trans H02.out
      have h13 := blk_set H12.out 1 (.int .i64 (pos : Int))
      generalize W1.setCell ⟨w.heap.size + 1, 1, none⟩ (.int .i64 (pos : Int)) = W3 at *
      have hB4 : Below w.heap.size w (W3.alloc (.cells #[.pointer none] 99)) := below_alloc hB3 _
      have hs4 := (hB4.block s hsl).trans HS.out
      have hn4 : (W3.alloc (.cells #[.pointer none] 99)).heap[W1.heap.size]? = some (.cells #[.pointer none] 99 (0, 0)) := by rw [← hz3]; exact heap_alloc_new _ _
      with_reducible refine (as_spoken_any E _ (HE.out.below hB4) s W1.heap.size hn4).mono ?_
      rintro e W5 ⟨rfl, hb5, hg5⟩
      have hB5 : Below w.heap.size w W5 := hB4.grown hg5 (by simp; omega) (fun k hk => by cases hk; omega)
      have h05 : W5.heap[w.heap.size]? = _ := (hg5.block w.heap.size (by simp; omega) (by simp; omega)).trans ((Below.heap_alloc _ _ _ (by omega)).trans h03)
      have h15 : W5.heap[w.heap.size + 1]? = _ := (hg5.block (w.heap.size + 1) (by simp; omega) (by simp; omega)).trans ((Below.heap_alloc _ _ _ (by omega)).trans h13)
      have hs5 := (hB5.block s hsl).trans HS.out
      have hc1 : W5.cell? ⟨W1.heap.size, 0, none⟩ = some (.pointer (some ⟨s, 0, none⟩)) := (blk_cell hb5 0).trans rfl
      have hc2 : W5.cell? ⟨s, 1, none⟩ = some (.int .i64 (lang : Int)) := (blk_cell hs5 1).trans rfl
      have hd0 : W5.cell? ⟨w.heap.size + 1, 0, none⟩ = some (.int .i64 (code : Int)) := (blk_cell h15 0).trans rfl
      have hd1 : W5.cell? ⟨w.heap.size + 1, 1, none⟩ = some (.int .i64 (pos : Int)) := (blk_cell h15 1).trans rfl
      have hd2 : W5.cell? ⟨w.heap.size + 1, 2, none⟩ = some (.int .i64 0) := (blk_cell h15 2).trans rfl
      have hd3 := blk_frozen h15 2
      have he0 : W5.cell? ⟨w.heap.size, 0, none⟩ = some (.int .i64 0) := (blk_cell h05 0).trans rfl
      have he1 : W5.cell? ⟨w.heap.size, 1, none⟩ = some (.int .i64 0) := (blk_cell h05 1).trans rfl
      have he2 : W5.cell? ⟨w.heap.size, 2, none⟩ = some (.int .i64 0) := (blk_cell h05 2).trans rfl
      have hf0 := blk_frozen h05 0
      have hf1 := blk_frozen h05 1
      have hf2 := blk_frozen h05 2
      have HB5 := Aside0.mk hB5
      clear hB5 hg5 hb5 h05 h15 hs5 hs4 hn4 hB4 hB3 h03 h13
      go_wp2_with fail
      refine bodyPost_ret (v := .agg #[.int .i64 (code : Int), .int .i64 (pos : Int), .int .i64 (lang : Int)]) (by simp [results, Tryz.results21, go_sem, he0, he1, he2]) rfl ⟨rfl, ?_⟩
      exact (by repeat (first | (with_reducible exact HB5.out) | (with_reducible refine below_put ?_ _ _ (by first | exact Nat.le_refl _ | (simp; done) | (simp; omega)) _)))
end Go.Proofs.YtjllmamblkejjaaGreatDoor
end

/- The parser's memory: trees as they lie in the heap; what pass, fail and bar come to. No conditions. -/
section
set_option linter.unusedVariables false
set_option linter.unusedSimpArgs false
namespace Go.Proofs.YtjllmamblkejjaaGreatDoor
open Go.RowKit Go.Proofs.YtjllmamblkejjaaGreatDoorW.PrintWords Go.Proofs.YtjllmamblkejjaaGreatDoorW.PrintLast Go.Proofs.YtjllmamblkejjaaGreatDoorW.PrintMore
open PQA Sp

/-- The six cells of a tree's struct. -/
abbrev hd (op : Bs) (num : Nat) (x : Bs) (pos apos : Nat) (k : Value) : List Value := [.string (mk op), .int .i64 (num : Int), .string (mk x), .int .i64 (pos : Int), .int .i64 (apos : Int), k]
/-- A tree in the heap: its kids' rows lie from block lo on. -/
def Tr (w : World) (lo : Nat) : Ex → List Value → Prop
  | .num n pos, cs => cs = hd wNum n [] pos 0 (.slice none 0 0)
  | .name x pos, cs => cs = hd wName 0 x pos 0 (.slice none 0 0)
  | .un op pos e, cs => ∃ b c k z, lo ≤ b ∧ 1 ≤ c ∧ w.heap[b]? = some (.cells (k ++ z).toArray 63 (0, 0)) ∧ cs = hd op 0 [] pos 0 (.slice (some ⟨b, 0, none⟩) 1 c) ∧ Tr w lo e k
  | .bin op pos e1 e2, cs => ∃ b c k1 k2 z, lo ≤ b ∧ 2 ≤ c ∧ w.heap[b]? = some (.cells (k1 ++ k2 ++ z).toArray 63 (0, 0)) ∧ cs = hd op 0 [] pos 0 (.slice (some ⟨b, 0, none⟩) 2 c) ∧ Tr w lo e1 k1 ∧ Tr w lo e2 k2
  | .tern pos e1 e2 e3, cs => ∃ b c k1 k2 k3 z, lo ≤ b ∧ 3 ≤ c ∧ w.heap[b]? = some (.cells (k1 ++ k2 ++ k3 ++ z).toArray 63 (0, 0)) ∧ cs = hd [63] 0 [] pos 0 (.slice (some ⟨b, 0, none⟩) 3 c) ∧ Tr w lo e1 k1 ∧ Tr w lo e2 k2 ∧ Tr w lo e3 k3
  | .asg op x pos apos e, cs => ∃ b c k z, lo ≤ b ∧ 1 ≤ c ∧ w.heap[b]? = some (.cells (k ++ z).toArray 63 (0, 0)) ∧ cs = hd op 0 x pos apos (.slice (some ⟨b, 0, none⟩) 1 c) ∧ Tr w lo e k
theorem Tr.keep {w w' : World} {lo : Nat} (hk : ∀ k cells, lo ≤ k → w.heap[k]? = some (.cells cells 63 (0, 0)) → w'.heap[k]? = w.heap[k]?) : ∀ (ex : Ex) (cs : List Value), Tr w lo ex cs → Tr w' lo ex cs
  | .num n pos, cs, h => h
  | .name x pos, cs, h => h
  | .un op pos e, cs, ⟨b, c, k, z, hb, hc, hh, hcs, h1⟩ => ⟨b, c, k, z, hb, hc, (hk b _ hb hh).trans hh, hcs, Tr.keep hk e k h1⟩
  | .bin op pos e1 e2, cs, ⟨b, c, k1, k2, z, hb, hc, hh, hcs, h1, h2⟩ => ⟨b, c, k1, k2, z, hb, hc, (hk b _ hb hh).trans hh, hcs, Tr.keep hk e1 k1 h1, Tr.keep hk e2 k2 h2⟩
  | .tern pos e1 e2 e3, cs, ⟨b, c, k1, k2, k3, z, hb, hc, hh, hcs, h1, h2, h3⟩ => ⟨b, c, k1, k2, k3, z, hb, hc, (hk b _ hb hh).trans hh, hcs, Tr.keep hk e1 k1 h1, Tr.keep hk e2 k2 h2, Tr.keep hk e3 k3 h3⟩
  | .asg op x pos apos e, cs, ⟨b, c, k, z, hb, hc, hh, hcs, h1⟩ => ⟨b, c, k, z, hb, hc, (hk b _ hb hh).trans hh, hcs, Tr.keep hk e k h1⟩
theorem Tr.below {w w' : World} {lo : Nat} {ex : Ex} {cs : List Value} (h : Tr w lo ex cs) (hb : Below w.heap.size w w') : Tr w' lo ex cs := Tr.keep (fun k _ _ hk => hb.block k (blk_lt hk)) ex cs h
/-- A block of another type may have been written. -/
theorem Tr.kept {w w' : World} {lo g : Nat} {ex : Ex} {cs : List Value} {gc : Array Value} {gt : TypeId} (h : Tr w lo ex cs) (hb : KeepBut w w' g none) (hg : w.heap[g]? = some (.cells gc gt (0, 0))) (ht : gt ≠ 63) : Tr w' lo ex cs :=
  Tr.keep (fun k _ _ hk => hb.2 k (blk_lt hk) (fun e => blk_ne (e ▸ hg) hk ht rfl) (by simp)) ex cs h
theorem Tr.six {w : World} {lo : Nat} : ∀ {ex : Ex} {cs : List Value}, Tr w lo ex cs → ∃ (s0 : ByteArray) (n1 : Int) (s2 : ByteArray) (n3 n4 : Int) (A : Option Addr) (n c : Nat), cs = [.string s0, .int .i64 n1, .string s2, .int .i64 n3, .int .i64 n4, .slice A n c]
  | .num n pos, cs, h => ⟨_, _, _, _, _, _, _, _, h⟩
  | .name x pos, cs, h => ⟨_, _, _, _, _, _, _, _, h⟩
  | .un op pos e, cs, ⟨b, c, k, z, hb, hc, hh, hcs, h1⟩ => ⟨_, _, _, _, _, _, _, _, hcs⟩
  | .bin op pos e1 e2, cs, ⟨b, c, k1, k2, z, hb, hc, hh, hcs, h1, h2⟩ => ⟨_, _, _, _, _, _, _, _, hcs⟩
  | .tern pos e1 e2 e3, cs, ⟨b, c, k1, k2, k3, z, hb, hc, hh, hcs, h1, h2, h3⟩ => ⟨_, _, _, _, _, _, _, _, hcs⟩
  | .asg op x pos apos e, cs, ⟨b, c, k, z, hb, hc, hh, hcs, h1⟩ => ⟨_, _, _, _, _, _, _, _, hcs⟩

def TokOk (b : Bs) (t : Tok) : Prop := t.pos ≤ b.length ∧ t.fin ≤ b.length ∧ t.num ≤ maxI
theorem find_pre (l : Bs) (o : Bs) (L : List Bs) (h : L.find? (fun o => o.isPrefixOf (l.take 3)) = some o) : o.length ≤ l.length := by
  have := List.find?_some h
  simp only [List.isPrefixOf_iff_prefix] at this
  have := this.length_le
  simp at this
  omega
theorem tokAt_ok (b : Bs) (a : Nat) (ha : a ≤ b.length) : TokOk b (tokAt (b.drop a) a) := by
  have hd : (b.drop a).length = b.length - a := List.length_drop
  unfold tokAt
  split
  · exact ⟨ha, ha, Nat.zero_le _⟩
  · split
    · have := const_le (b.drop a); exact ⟨ha, by simp only; omega, const_max _⟩
    · split
      · have := name_le (b.drop a); exact ⟨ha, by simp only; omega, Nat.zero_le _⟩
      · split
        · rename_i o ho
          have := find_pre _ _ _ ho
          exact ⟨ha, by simp only; omega, Nat.zero_le _⟩
        · exact ⟨ha, ha, Nat.zero_le _⟩
theorem skip_le (l : Bs) : skip l ≤ l.length := by
  induction l with
  | nil => simp [skip]
  | cons c cs ih => rw [skip]; split <;> simp <;> omega
theorem next_ok (b : Bs) (a : Nat) (ha : a ≤ b.length) : TokOk b (next b a) := by
  have h := skip_le (b.drop a)
  rw [List.length_drop] at h
  exact tokAt_ok b _ (by omega)

theorem IsRd.blk {w0 W : World} {g : Nat} {b : Bs} {t : Tok} (h : IsRd w0 W g b t) : ∃ gc, W.heap[g]? = some (.cells gc 77 (0, 0)) := by
  obtain ⟨A, c, hg, _⟩ := h
  exact ⟨_, hg⟩
theorem IsRd.keep {w0 W W' : World} {g : Nat} {b : Bs} {t : Tok} (h : IsRd w0 W g b t) (hb : Below W.heap.size W W') : IsRd w0 W' g b t := by
  obtain ⟨A, c, hg, r⟩ := h
  exact ⟨A, c, (hb.block g (blk_lt hg)).trans hg, r⟩
theorem IsRd.far {w0 W : World} {g : Nat} {b : Bs} {t : Tok} (h : IsRd w0 W g b t) {p : Addr} (hp : p.block ≠ g) (u : Value) : IsRd w0 (W.setCell p u) g b t := by
  obtain ⟨A, c, hg, r⟩ := h
  exact ⟨A, c, (Below.heap_setCell W p u g (fun e => hp e.symm)).trans hg, r⟩
theorem IsRd.puts {w0 W : World} {g r : Nat} {b : Bs} {t : Tok} {o : Obj} {v0 v1 v2 v3 v4 v5 : Value} (h : IsRd w0 W g b t) (_hr : W.heap[r]? = some o) (hne : r ≠ g) :
    IsRd w0 ((((((W.setCell ⟨r, 0, none⟩ v0).setCell ⟨r, 1, none⟩ v1).setCell ⟨r, 2, none⟩ v2).setCell ⟨r, 3, none⟩ v3).setCell ⟨r, 4, none⟩ v4).setCell ⟨r, 5, none⟩ v5) g b t :=
  ((((((h.far (p := ⟨r, 0, none⟩) hne v0).far (p := ⟨r, 1, none⟩) hne v1).far (p := ⟨r, 2, none⟩) hne v2).far (p := ⟨r, 3, none⟩) hne v3).far (p := ⟨r, 4, none⟩) hne v4).far (p := ⟨r, 5, none⟩) hne v5)
theorem KeepBut.setNew {w W : World} {g : Nat} (h : KeepBut w W g none) {p : Addr} (hp : w.heap.size ≤ p.block) (u : Value) : KeepBut w (W.setCell p u) g none :=
  ⟨by simpa [World.setCell] using h.1, fun i hi hg hr => (Below.heap_setCell W p u i (by omega)).trans (h.2 i hi hg hr)⟩
theorem keepc {w w' : World} {g r i : Nat} {o : Obj} {u : Value} (hk : KeepBut w w' g none) (hb : w.heap[r]? = some o) (hne : r ≠ g) (hc : w.cell? ⟨r, i, none⟩ = some u) : w'.cell? ⟨r, i, none⟩ = some u :=
  (World.cell?_of_block (w := w) (a := ⟨r, i, none⟩) (hk.2 r (blk_lt hb) hne (by simp))).trans hc
theorem IsRd.drew {w0 W : World} {g : Nat} {b : Bs} {t : Tok} (h : IsRd w0 W g b t) : IsRd w0 W.drew g b t := h
theorem IsRd.drewN {w0 W : World} {g : Nat} {b : Bs} {t : Tok} (h : IsRd w0 W g b t) (n : Nat) : IsRd w0 (W.drewN n) g b t := h
theorem KeepBut.drewL {w w' : World} {g : Nat} (h : KeepBut w.drew w' g none) : KeepBut w w' g none := h
theorem IsRd.lt {w0 W : World} {g : Nat} {b : Bs} {t : Tok} (h : IsRd w0 W g b t) : g < W.heap.size := by
  obtain ⟨A, c, hg, r⟩ := h
  exact blk_lt hg
theorem IsRd.ge {w0 W : World} {g : Nat} {b : Bs} {t : Tok} (h : IsRd w0 W g b t) : w0.heap.size ≤ g := by
  obtain ⟨A, c, hg, r, _⟩ := h
  exact r

/-- A tree's rows may lie higher than is said. -/
theorem Tr.lo {w : World} {lo lo' : Nat} (hl : lo' ≤ lo) : ∀ (ex : Ex) (cs : List Value), Tr w lo ex cs → Tr w lo' ex cs
  | .num n pos, cs, h => h
  | .name x pos, cs, h => h
  | .un op pos e, cs, ⟨b, c, k, z, hb, hc, hh, hcs, h1⟩ => ⟨b, c, k, z, Nat.le_trans hl hb, hc, hh, hcs, Tr.lo hl e k h1⟩
  | .bin op pos e1 e2, cs, ⟨b, c, k1, k2, z, hb, hc, hh, hcs, h1, h2⟩ => ⟨b, c, k1, k2, z, Nat.le_trans hl hb, hc, hh, hcs, Tr.lo hl e1 k1 h1, Tr.lo hl e2 k2 h2⟩
  | .tern pos e1 e2 e3, cs, ⟨b, c, k1, k2, k3, z, hb, hc, hh, hcs, h1, h2, h3⟩ => ⟨b, c, k1, k2, k3, z, Nat.le_trans hl hb, hc, hh, hcs, Tr.lo hl e1 k1 h1, Tr.lo hl e2 k2 h2, Tr.lo hl e3 k3 h3⟩
  | .asg op x pos apos e, cs, ⟨b, c, k, z, hb, hc, hh, hcs, h1⟩ => ⟨b, c, k, z, Nat.le_trans hl hb, hc, hh, hcs, Tr.lo hl e k h1⟩
/-- A block beneath all of its rows may have been written. -/
theorem Tr.under {w w' : World} {lo r : Nat} {ex : Ex} {cs : List Value} (h : Tr w lo ex cs) (hb : KeepBut w w' r none) (hr : r < lo) : Tr w' lo ex cs :=
  Tr.keep (fun k _ hl hk => hb.2 k (blk_lt hk) (by omega) (by simp)) ex cs h
theorem heap_new {w W : World} (h : W.heap.size = w.heap.size) (o : Obj) : (W.alloc o).heap[w.heap.size]? = some o := by
  rw [← h]; exact heap_alloc_new W o
/-- The reader at block g, made in w0 and handed to a call that began in w, stands in W at the token t. -/
structure Rests (w0 w W : World) (g : Nat) (b : Bs) (t : Tok) : Prop where
  rd : IsRd w0 W g b t
  ok : TokOk b t
  below : Below w0.heap.size w0 W
  keep : KeepBut w W g none
  lt : g < w.heap.size
  ge : w0.heap.size ≤ w.heap.size
theorem Rests.drew {w0 w W : World} {g : Nat} {b : Bs} {t : Tok} (h : Rests w0 w W g b t) : Rests w0 w W.drew g b t := ⟨h.rd.drew, h.ok, below_drew1 h.below, h.keep, h.lt, h.ge⟩
theorem Rests.drewN {w0 w W : World} {g : Nat} {b : Bs} {t : Tok} (h : Rests w0 w W g b t) (n : Nat) : Rests w0 w (W.drewN n) g b t := ⟨h.rd.drewN n, h.ok, pw_below_drewN h.below n, h.keep, h.lt, h.ge⟩
theorem Rests.alloc {w0 w W : World} {g : Nat} {b : Bs} {t : Tok} (h : Rests w0 w W g b t) (o : Obj) : Rests w0 w (W.alloc o) g b t :=
  ⟨h.rd.keep (below_alloc (Below.refl _ _) o), h.ok, below_alloc h.below o, h.keep.trans (KeepBut.of_below (below_alloc (Below.refl _ _) o) g none) (.inl rfl), h.lt, h.ge⟩
theorem Rests.put {w0 w W : World} {g : Nat} {b : Bs} {t : Tok} (h : Rests w0 w W g b t) {p : Addr} (hp : w.heap.size ≤ p.block) (u : Value) : Rests w0 w (W.setCell p u) g b t :=
  ⟨h.rd.far (by have := h.lt; omega) u, h.ok, h.below.setCell (Nat.le_trans h.ge hp) u, KeepBut.setNew h.keep hp u, h.lt, h.ge⟩
theorem Rests.self {w0 w W : World} {g : Nat} {b : Bs} {t : Tok} (h : Rests w0 w W g b t) : Rests w0 W W g b t :=
  ⟨h.rd, h.ok, h.below, KeepBut.refl _ _ _, h.rd.lt, Nat.le_trans h.ge h.keep.1⟩
theorem Rests.trans {w0 w W W' : World} {g : Nat} {b : Bs} {t t' : Tok} (h : Rests w0 w W g b t) (k : Rests w0 W W' g b t') : Rests w0 w W' g b t' :=
  ⟨k.rd, k.ok, k.below, h.keep.trans k.keep (.inl rfl), h.lt, h.ge⟩

set_option maxHeartbeats 4000000 in
set_option maxRecDepth 100000 in
theorem pass_calls (b : Bs) (t : Tok) (g : Nat) (w0 w : World) (hI : IsRd w0 w g b t) (hB : Below w0.heap.size w0 w) (ht : TokOk b t) (hlen : b.length ≤ 1024) :
    Calls Tryz.prog 38 #[.pointer (some ⟨g, 0, none⟩)] w fun e w' => e = .returned (.tuple #[]) ∧ IsRd w0 w' g b (next b t.fin) ∧ Below w0.heap.size w0 w' ∧ KeepBut w w' g none := by
  have HI := Aside0.mk hI
  have HB := Aside0.mk hB
  have hfin := ht.2.1
  obtain ⟨A, c, hg, hge, hc, hC⟩ := hI
  have hc3 : w.cell? ⟨g, 3, none⟩ = some (.int .i64 (t.fin : Int)) := (blk_cell hg 3).trans rfl
  have HG := Aside0.mk hg
  have HC := Aside0.mk hC
  clear hg hC hB ht
  go_enter Tryz.func38, Tryz.ntmps38
  go_wp2_with fail
  with_reducible refine (next_calls b t g w0 _ t.fin HI.out HB.out hfin hlen).mono ?_
  rintro e w1 ⟨rfl, hb1⟩
  have hg1 := (hb1.block g (blk_lt HG.out)).trans HG.out
  have hk1 : w1.cell? ⟨g, 1, none⟩ = some (.string (mk t.op)) := (blk_cell hg1 1).trans rfl
  have hk2 : w1.cell? ⟨g, 2, none⟩ = some (.int .i64 (t.pos : Int)) := (blk_cell hg1 2).trans rfl
  have hk3 : w1.cell? ⟨g, 3, none⟩ = some (.int .i64 (t.fin : Int)) := (blk_cell hg1 3).trans rfl
  have hk4 : w1.cell? ⟨g, 4, none⟩ = some (.int .i64 (t.num : Int)) := (blk_cell hg1 4).trans rfl
  have hk5 : w1.cell? ⟨g, 5, none⟩ = some (.bool t.over) := (blk_cell hg1 5).trans rfl
  have hk6 : w1.cell? ⟨g, 6, none⟩ = some (.string (mk t.name)) := (blk_cell hg1 6).trans rfl
  have hf1 := blk_frozen hg1 1
  have hf2 := blk_frozen hg1 2
  have hf3 := blk_frozen hg1 3
  have hf4 := blk_frozen hg1 4
  have hf5 := blk_frozen hg1 5
  have hf6 := blk_frozen hg1 6
  generalize hn : next b t.fin = t' at *
  have HN := Aside0.mk hn
  clear hn
  have HG1 := Aside0.mk hg1
  have HB1 := Aside0.mk hb1
  unfold tokV
  clear hg1 hb1
  go_wp2_with fail
  go_end0
  rw [HN.out]
  refine ⟨rfl, ⟨A, c, ?_, hge, hc, HC.out⟩, ?_, ?_⟩
  · exact blk_set (blk_set (blk_set (blk_set (blk_set (blk_set HG1.out 1 (.string (mk t'.op))) 2 (.int .i64 (t'.pos : Int))) 3 (.int .i64 (t'.fin : Int))) 4 (.int .i64 (t'.num : Int))) 5 (.bool t'.over)) 6 (.string (mk t'.name))
  · exact ((((((below_then HB.out HB.out.size HB1.out).setCell hge _).setCell hge _).setCell hge _).setCell hge _).setCell hge _).setCell hge _
  · exact ((((((KeepBut.of_below HB1.out g none).set_ 1 _).set_ 2 _).set_ 3 _).set_ 4 _).set_ 5 _).set_ 6 _

theorem pass_rests (b : Bs) (t : Tok) (g : Nat) (w0 w W : World) (h : Rests w0 w W g b t) (hlen : b.length ≤ 1024) :
    Calls Tryz.prog 38 #[.pointer (some ⟨g, 0, none⟩)] W fun e w' => e = .returned (.tuple #[]) ∧ Rests w0 w w' g b (next b t.fin) ∧ KeepBut W w' g none :=
  (pass_calls b t g w0 W h.rd h.below h.ok hlen).mono fun e w' ⟨he, hi, hb, hk⟩ => ⟨he, ⟨hi, next_ok b _ h.ok.2.1, hb, h.keep.trans hk (.inl rfl), h.lt, h.ge⟩, hk⟩

def Panics (E : Nat → Addr) (w : World) (code pos : Nat) (e : Ending) (w' : World) : Prop := ∃ v, e = .panicked [{ v := v, recovered := false }] ∧ ErrV E w' v code pos 1 ∧ Below w.heap.size w w'
theorem Panics.mono {E : Nat → Addr} {w0 w w' : World} {code pos : Nat} {e : Ending} (h : Panics E w code pos e w') (hB : Below w0.heap.size w0 w) : Panics E w0 code pos e w' := by
  obtain ⟨v, he, hv, hb⟩ := h
  exact ⟨v, he, hv, below_then hB hB.size hb⟩

theorem fail_calls (E : Nat → Addr) (p : Value) (code pos : Nat) (ci : Int) (hci : ci = (code : Int)) (w : World) (hE : Env E w) (h1 : 1 ≤ code) (h2 : code ≤ 21) :
    Calls Tryz.prog 65 #[p, .int .i64 ci, .int .i64 (pos : Int)] w fun e w' => Panics E w code pos e w' := by
  subst hci
  have HE := Aside0.mk hE
  clear hE
  go_enter Tryz.func65, Tryz.ntmps65
  go_wp2_with fail
  with_reducible refine (of_calls E code _ HE.out h1 h2).mono ?_
  rintro e w' ⟨rfl, rfl⟩
  go_wp2_with fail
  with_reducible refine (at_calls _ _ _ _).mono ?_
  rintro e w' ⟨rfl, rfl⟩
  go_wp2_with fail
  with_reducible refine (in_calls _ _ _ _).mono ?_
  rintro e w' ⟨rfl, rfl⟩
  go_wp2_with fail
  refine ⟨rfl, _, rfl, ?_, below_alloc (below_alloc (Below.refl _ _) _) _⟩
  simpa using ErrV.made E w code pos 1
theorem bar_calls (E : Nat → Addr) (b : Bs) (t : Tok) (g : Nat) (w0 w : World) (hE : Env E w) (hI : IsRd w0 w g b t) :
    Calls Tryz.prog 40 #[.pointer (some ⟨g, 0, none⟩)] w fun e w' => Panics E w (if t.over then 6 else 3) t.pos e w' := by
  have HE := Aside0.mk hE
  clear hE
  obtain ⟨A, c, hg, hge, hc, hC⟩ := hI
  have hc2 : w.cell? ⟨g, 2, none⟩ = some (.int .i64 (t.pos : Int)) := (blk_cell hg 2).trans rfl
  have hc5 : w.cell? ⟨g, 5, none⟩ = some (.bool t.over) := (blk_cell hg 5).trans rfl
  clear hg hC
  cases ho : t.over with
  | true =>
    rw [ho] at hc5
    go_enter Tryz.func40, Tryz.ntmps40
    go_wp2_with fail
    with_reducible refine (fail_calls E _ 6 t.pos 6 rfl _ HE.out (by omega) (by omega)).mono ?_
    rintro e w' ⟨v, rfl, hv, hb⟩
    go_wp2_with fail
    exact ⟨rfl, _, rfl, hv, hb⟩
  | false =>
    rw [ho] at hc5
    go_enter Tryz.func40, Tryz.ntmps40
    go_wp2_with fail
    with_reducible refine (fail_calls E _ 3 t.pos 3 rfl _ HE.out (by omega) (by omega)).mono ?_
    rintro e w' ⟨v, rfl, hv, hb⟩
    go_wp2_with fail
    exact ⟨rfl, _, rfl, hv, hb⟩
end Go.Proofs.YtjllmamblkejjaaGreatDoor
end

/- What (*arith.reader).constant comes to: the spec's. No conditions. -/
section
set_option linter.unusedVariables false
set_option linter.unusedSimpArgs false
namespace Go.Proofs.YtjllmamblkejjaaGreatDoor
open Go.RowKit Go.Proofs.YtjllmamblkejjaaGreatDoorW.PrintWords Go.Proofs.YtjllmamblkejjaaGreatDoorW.PrintLast Go.Proofs.YtjllmamblkejjaaGreatDoorW.PrintMore
open PQA Sp

/-- A tree is handed back, the reader stands at the token behind it; or the reader gives up. -/
def PPost (E : Nat → Addr) (w0 w : World) (g : Nat) (b : Bs) : Res Ex → Ending → World → Prop
  | .ok ex t', e, w' => (∃ (s0 : ByteArray) (n1 : Int) (s2 : ByteArray) (n3 n4 : Int) (A : Option Addr) (n c : Nat), e = .returned (.agg #[.string s0, .int .i64 n1, .string s2, .int .i64 n3, .int .i64 n4, .slice A n c]) ∧
      Tr w' w.heap.size ex [.string s0, .int .i64 n1, .string s2, .int .i64 n3, .int .i64 n4, .slice A n c]) ∧ Rests w0 w w' g b t'
  | .err c p, e, w' => Panics E w0 c p e w'
  | .out, _, _ => False

set_option maxHeartbeats 4000000 in
set_option maxRecDepth 100000 in
theorem constant_calls (E : Nat → Addr) (b : Bs) (t : Tok) (g : Nat) (w0 w : World) (hE : Env E w0) (hI : IsRd w0 w g b t) (hB : Below w0.heap.size w0 w) (ht : TokOk b t) (hlen : b.length ≤ 1024) :
    Calls Tryz.prog 137 #[.pointer (some ⟨g, 0, none⟩)] w (PPost E w0 w g b (constant b t)) := by
  have HI := Aside0.mk hI
  have HB := Aside0.mk hB
  have HE := Aside0.mk hE
  have HT := Aside0.mk ht
  have hfin := ht.2.1
  obtain ⟨A, c, hg, hge, hc, hC⟩ := hI
  have hglt := blk_lt hg
  have hk0 : w.cell? ⟨g, 0, none⟩ = some (.slice A b.length c) := (blk_cell hg 0).trans rfl
  have hk1 : w.cell? ⟨g, 1, none⟩ = some (.string (mk t.op)) := (blk_cell hg 1).trans rfl
  have hk2 : w.cell? ⟨g, 2, none⟩ = some (.int .i64 (t.pos : Int)) := (blk_cell hg 2).trans rfl
  have hk3 : w.cell? ⟨g, 3, none⟩ = some (.int .i64 (t.fin : Int)) := (blk_cell hg 3).trans rfl
  have hk4 : w.cell? ⟨g, 4, none⟩ = some (.int .i64 (t.num : Int)) := (blk_cell hg 4).trans rfl
  have hk5 : w.cell? ⟨g, 5, none⟩ = some (.bool t.over) := (blk_cell hg 5).trans rfl
  have hk6 : w.cell? ⟨g, 6, none⟩ = some (.string (mk t.name)) := (blk_cell hg 6).trans rfl
  have HC := Aside0.mk (Kd.C_below hC hB)
  clear hg hC hB hE ht
  cases ho : t.over with
  | true =>
    rw [ho] at hk5
    have HR : Aside0 (constant b t = .err 6 t.pos) := ⟨by rw [constant, if_pos ho]⟩
    rw [HR.out]
    go_enter Tryz.func137, Tryz.ntmps137
    go_wp2_with fail
    with_reducible refine (fail_calls E _ 6 t.pos 6 rfl _ ?_ (by omega) (by omega)).mono ?_
    · exact HE.out.below (by repeat (first | (with_reducible exact HB.out) | (with_reducible apply below_alloc)))
    rintro e w' ⟨v, rfl, hv, hb⟩
    go_wp2_with fail
    exact ⟨rfl, _, rfl, hv, below_then (by repeat (first | (with_reducible exact HB.out) | (with_reducible apply below_alloc) | (with_reducible apply pw_below_drewN) | (with_reducible apply below_drew1))) (by have := HB.out.size; simp; omega) hb⟩
  | false =>
    rw [ho] at hk5
    by_cases hend : t.fin < b.length
    · have hd1 : decide ((t.fin : Int) < (b.length : Int)) = true := by simpa using hend
      obtain ⟨rest, A', hrest, hcutr, hrb, hrl⟩ := rest_cut A c b t.fin hfin hc
      have hrlen : rest.length ≤ 1024 := by rw [hrest, List.length_drop]; omega
      obtain ⟨ad, rfl, hb0⟩ := rb_byte HC.out t.fin hend
      have hbl := World.block_lt_of_cell? w _ hb0
      have hrc : rest = b[t.fin] :: b.drop (t.fin + 1) := by rw [hrest, List.drop_eq_getElem_cons hend]
      generalize b[t.fin] = z at *
      have HRb := Aside0.mk (hrb w HC.out)
      obtain ⟨m, hm⟩ : ∃ m, m = name rest := ⟨_, rfl⟩
      have HM := Aside0.mk hm
      have hml : m ≤ rest.length := by rw [hm]; exact name_le rest
      have HRst := Aside0.mk hrest
      have HRc := Aside0.mk hrc
      clear hrest hrb hm hrc
      go_enter Tryz.func137, Tryz.ntmps137
      have hb1 := pw_cell_below (below_alloc (below_alloc (Below.refl w.heap.size w) (.cells #[.string ⟨#[]⟩, .int .i64 0, .string ⟨#[]⟩, .int .i64 0, .int .i64 0, .slice none 0 0] 63)) (.cells #[.string (mk t.op), .int .i64 (t.pos : Int), .int .i64 (t.fin : Int), .int .i64 (t.num : Int), .bool false, .string (mk t.name)] 75)) hb0
      clear hb0
      have hfi : ((t.fin : Int)) < (b.length : Int) := by omega
      go_wp2_with fail
      go_quiet (fail)
      go_wp2_with fail
      go_quiet (fail)
      by_cases hm0 : 0 < m
      · have hmd : decide ((0 : Int) < (m : Int)) = true := by simpa using hm0
        have HR : Aside0 (constant b t = .err 3 t.fin) := ⟨by rw [constant, if_neg (by rw [ho]; decide), ← HRst.out, HRc.out]; simp only; rw [if_pos (Or.inl (by rw [← HRc.out, ← HM.out]; exact hm0))]⟩
        go_wp2_with fail
        go_quiet ((go_at_call 51; (with_reducible refine (name_calls_m rest _ HM.out A' _ _ (Kd.C_below HRb.out (by repeat (first | (with_reducible exact Below.refl _ _) | (with_reducible apply below_alloc) | (with_reducible apply pw_below_drewN) | (with_reducible apply below_drew1)))) hrl (by omega)).mono ?_); rintro e w' ⟨rfl, ⟨nd, rfl⟩⟩; (first | exact ⟨rfl, _, World.drewN_drewN _ _ _⟩ | exact ⟨rfl, _, Eq.trans (World.drewN_drewN _ _ _) (congrArg (World.drewN _) (Nat.add_assoc _ _ _))⟩)))
        go_wp2_with fail
        with_reducible refine (fail_calls E _ 3 t.fin 3 rfl _ ?_ (by omega) (by omega)).mono ?_
        · exact HE.out.below (by repeat (first | (with_reducible exact HB.out) | (with_reducible apply below_alloc) | (with_reducible apply pw_below_drewN) | (with_reducible apply below_drew1)))
        rintro e w' ⟨v, rfl, hv, hb⟩
        go_wp2_with fail
        rw [HR.out]
        exact ⟨rfl, _, rfl, hv, below_then (by repeat (first | (with_reducible exact HB.out) | (with_reducible apply below_alloc) | (with_reducible apply pw_below_drewN) | (with_reducible apply below_drew1))) (by have := HB.out.size; simp; omega) hb⟩
      · obtain rfl : m = 0 := by omega
        clear hm0
        by_cases hdg : isDig z = true
        · have HR : Aside0 (constant b t = .err 3 t.fin) := ⟨by rw [constant, if_neg (by rw [ho]; decide), ← HRst.out, HRc.out]; simp only; rw [if_pos (Or.inr hdg)]⟩
          have h1 : 48 ≤ z.toNat ∧ z.toNat ≤ 57 := by simpa [isDig, UInt8.le_iff_toNat_le] using hdg
          have hge : decide ((48 : Int) ≤ (z.toNat : Int)) = true := by simp; omega
          have hle : decide ((z.toNat : Int) ≤ 57) = true := by simp; omega
          clear hdg h1
          go_wp2_with fail
          go_quiet ((go_at_call 51; (with_reducible refine (name_calls_m rest _ HM.out A' _ _ (Kd.C_below HRb.out (by repeat (first | (with_reducible exact Below.refl _ _) | (with_reducible apply below_alloc) | (with_reducible apply pw_below_drewN) | (with_reducible apply below_drew1)))) hrl (by omega)).mono ?_); rintro e w' ⟨rfl, ⟨nd, rfl⟩⟩; (first | exact ⟨rfl, _, World.drewN_drewN _ _ _⟩ | exact ⟨rfl, _, Eq.trans (World.drewN_drewN _ _ _) (congrArg (World.drewN _) (Nat.add_assoc _ _ _))⟩)))
          go_wp2_with fail
          with_reducible refine (fail_calls E _ 3 t.fin 3 rfl _ ?_ (by omega) (by omega)).mono ?_
          · exact HE.out.below (by repeat (first | (with_reducible exact HB.out) | (with_reducible apply below_alloc) | (with_reducible apply pw_below_drewN) | (with_reducible apply below_drew1)))
          rintro e w' ⟨v, rfl, hv, hb⟩
          go_wp2_with fail
          rw [HR.out]
          exact ⟨rfl, _, rfl, hv, below_then (by repeat (first | (with_reducible exact HB.out) | (with_reducible apply below_alloc) | (with_reducible apply pw_below_drewN) | (with_reducible apply below_drew1))) (by have := HB.out.size; simp; omega) hb⟩
        · have HR : Aside0 (constant b t = .ok (.num t.num t.pos) (next b t.fin)) := ⟨by
            rw [constant, if_neg (by rw [ho]; decide), ← HRst.out, HRc.out]
            simp only
            rw [if_neg (by rintro (h | h); · rw [← HRc.out, ← HM.out] at h; exact absurd h (Nat.lt_irrefl 0)
                           · exact hdg h)]⟩
          have h1 : ¬ (48 ≤ z.toNat ∧ z.toNat ≤ 57) := by simpa [isDig, UInt8.le_iff_toNat_le] using hdg
          by_cases h2 : 48 ≤ z.toNat
          · have hge : decide ((48 : Int) ≤ (z.toNat : Int)) = true := by simp; omega
            have hle : decide ((z.toNat : Int) ≤ 57) = false := by simp; omega
            clear hdg h1 h2
            go_wp2_with fail
            go_quiet ((go_at_call 51; (with_reducible refine (name_calls_m rest _ HM.out A' _ _ (Kd.C_below HRb.out (by repeat (first | (with_reducible exact Below.refl _ _) | (with_reducible apply below_alloc) | (with_reducible apply pw_below_drewN) | (with_reducible apply below_drew1)))) hrl (by omega)).mono ?_); rintro e w' ⟨rfl, ⟨nd, rfl⟩⟩; (first | exact ⟨rfl, _, World.drewN_drewN _ _ _⟩ | exact ⟨rfl, _, Eq.trans (World.drewN_drewN _ _ _) (congrArg (World.drewN _) (Nat.add_assoc _ _ _))⟩)))
            go_wp2_with fail
            with_reducible refine (pass_calls b t g w0 _ (HI.out.keep (by repeat (first | (with_reducible exact Below.refl _ _) | (with_reducible apply below_alloc) | (with_reducible apply pw_below_drewN) | (with_reducible apply below_drew1)))) (by repeat (first | (with_reducible exact HB.out) | (with_reducible apply below_alloc) | (with_reducible apply pw_below_drewN) | (with_reducible apply below_drew1))) HT.out hlen).mono ?_
            rintro e w1 ⟨rfl, hI1, hB1, hK1⟩
            have hr1 : w1.heap[w.heap.size]? = _ := hK1.blk (new0 w _ _ 0) (by omega) (by simp)
            have ht1 : w1.heap[w.heap.size + 1]? = _ := hK1.blk (new1 w _ _ 0) (by omega) (by simp)
            have he1 : w1.cell? ⟨w.heap.size + 1, 1, none⟩ = some (.int .i64 (t.pos : Int)) := (blk_cell ht1 1).trans rfl
            have he3 : w1.cell? ⟨w.heap.size + 1, 3, none⟩ = some (.int .i64 (t.num : Int)) := (blk_cell ht1 3).trans rfl
            have hd0 : w1.cell? ⟨w.heap.size, 0, none⟩ = some (.string ⟨#[]⟩) := (blk_cell hr1 0).trans rfl
            have hd1 : w1.cell? ⟨w.heap.size, 1, none⟩ = some (.int .i64 0) := (blk_cell hr1 1).trans rfl
            have hd2 : w1.cell? ⟨w.heap.size, 2, none⟩ = some (.string ⟨#[]⟩) := (blk_cell hr1 2).trans rfl
            have hd3 : w1.cell? ⟨w.heap.size, 3, none⟩ = some (.int .i64 0) := (blk_cell hr1 3).trans rfl
            have hd4 : w1.cell? ⟨w.heap.size, 4, none⟩ = some (.int .i64 0) := (blk_cell hr1 4).trans rfl
            have hd5 : w1.cell? ⟨w.heap.size, 5, none⟩ = some (.slice none 0 0) := (blk_cell hr1 5).trans rfl
            have hf0 := blk_frozen hr1 0
            have hf1 := blk_frozen hr1 1
            have hf2 := blk_frozen hr1 2
            have hf3 := blk_frozen hr1 3
            have hf4 := blk_frozen hr1 4
            have hf5 := blk_frozen hr1 5
            have hltr := blk_lt hr1
            have HI1 := Aside0.mk hI1
            have HB1 := Aside0.mk hB1
            have HK1 := Aside0.mk (show KeepBut w w1 g none from by (refine KeepBut.trans (KeepBut.of_below ?_ g none) hK1 (.inl rfl)); repeat (first | (with_reducible exact Below.refl _ _) | (with_reducible apply below_alloc) | (with_reducible apply pw_below_drewN) | (with_reducible apply below_drew1)))
            have HR1 := Aside0.mk hr1
            clear hI1 hB1 hK1 hr1 ht1
            go_wp2_with fail
            rw [HR.out]
            refine bodyPost_ret (v := .agg #[.string (mk wNum), .int .i64 (t.num : Int), .string (mk []), .int .i64 (t.pos : Int), .int .i64 0, .slice none 0 0]) (by simp [results, Tryz.results137, go_sem, mk, wNum, hd0, hd1, hd2, hd3, hd4, hd5]) rfl ⟨⟨_, _, _, _, _, _, _, _, rfl, rfl⟩, ?_, next_ok b _ hfin, ?_, ?_, hglt, HB.out.size⟩
            · exact IsRd.puts HI1.out HR1.out (by omega)
            · exact (by repeat (first | (with_reducible exact HB1.out) | (with_reducible refine Below.setCell ?_ (by have := HB.out.size; simp; omega) _)))
            · exact (by repeat (first | (with_reducible exact HK1.out) | (with_reducible refine KeepBut.setNew ?_ (by simp) _)))
          · have hge : decide ((48 : Int) ≤ (z.toNat : Int)) = false := by simp; omega
            clear hdg h1 h2
            go_wp2_with fail
            go_quiet ((go_at_call 51; (with_reducible refine (name_calls_m rest _ HM.out A' _ _ (Kd.C_below HRb.out (by repeat (first | (with_reducible exact Below.refl _ _) | (with_reducible apply below_alloc) | (with_reducible apply pw_below_drewN) | (with_reducible apply below_drew1)))) hrl (by omega)).mono ?_); rintro e w' ⟨rfl, ⟨nd, rfl⟩⟩; (first | exact ⟨rfl, _, World.drewN_drewN _ _ _⟩ | exact ⟨rfl, _, Eq.trans (World.drewN_drewN _ _ _) (congrArg (World.drewN _) (Nat.add_assoc _ _ _))⟩)))
            go_wp2_with fail
            with_reducible refine (pass_calls b t g w0 _ (HI.out.keep (by repeat (first | (with_reducible exact Below.refl _ _) | (with_reducible apply below_alloc) | (with_reducible apply pw_below_drewN) | (with_reducible apply below_drew1)))) (by repeat (first | (with_reducible exact HB.out) | (with_reducible apply below_alloc) | (with_reducible apply pw_below_drewN) | (with_reducible apply below_drew1))) HT.out hlen).mono ?_
            rintro e w1 ⟨rfl, hI1, hB1, hK1⟩
            have hr1 : w1.heap[w.heap.size]? = _ := hK1.blk (new0 w _ _ 0) (by omega) (by simp)
            have ht1 : w1.heap[w.heap.size + 1]? = _ := hK1.blk (new1 w _ _ 0) (by omega) (by simp)
            have he1 : w1.cell? ⟨w.heap.size + 1, 1, none⟩ = some (.int .i64 (t.pos : Int)) := (blk_cell ht1 1).trans rfl
            have he3 : w1.cell? ⟨w.heap.size + 1, 3, none⟩ = some (.int .i64 (t.num : Int)) := (blk_cell ht1 3).trans rfl
            have hd0 : w1.cell? ⟨w.heap.size, 0, none⟩ = some (.string ⟨#[]⟩) := (blk_cell hr1 0).trans rfl
            have hd1 : w1.cell? ⟨w.heap.size, 1, none⟩ = some (.int .i64 0) := (blk_cell hr1 1).trans rfl
            have hd2 : w1.cell? ⟨w.heap.size, 2, none⟩ = some (.string ⟨#[]⟩) := (blk_cell hr1 2).trans rfl
            have hd3 : w1.cell? ⟨w.heap.size, 3, none⟩ = some (.int .i64 0) := (blk_cell hr1 3).trans rfl
            have hd4 : w1.cell? ⟨w.heap.size, 4, none⟩ = some (.int .i64 0) := (blk_cell hr1 4).trans rfl
            have hd5 : w1.cell? ⟨w.heap.size, 5, none⟩ = some (.slice none 0 0) := (blk_cell hr1 5).trans rfl
            have hf0 := blk_frozen hr1 0
            have hf1 := blk_frozen hr1 1
            have hf2 := blk_frozen hr1 2
            have hf3 := blk_frozen hr1 3
            have hf4 := blk_frozen hr1 4
            have hf5 := blk_frozen hr1 5
            have hltr := blk_lt hr1
            have HI1 := Aside0.mk hI1
            have HB1 := Aside0.mk hB1
            have HK1 := Aside0.mk (show KeepBut w w1 g none from by (refine KeepBut.trans (KeepBut.of_below ?_ g none) hK1 (.inl rfl)); repeat (first | (with_reducible exact Below.refl _ _) | (with_reducible apply below_alloc) | (with_reducible apply pw_below_drewN) | (with_reducible apply below_drew1)))
            have HR1 := Aside0.mk hr1
            clear hI1 hB1 hK1 hr1 ht1
            go_wp2_with fail
            rw [HR.out]
            refine bodyPost_ret (v := .agg #[.string (mk wNum), .int .i64 (t.num : Int), .string (mk []), .int .i64 (t.pos : Int), .int .i64 0, .slice none 0 0]) (by simp [results, Tryz.results137, go_sem, mk, wNum, hd0, hd1, hd2, hd3, hd4, hd5]) rfl ⟨⟨_, _, _, _, _, _, _, _, rfl, rfl⟩, ?_, next_ok b _ hfin, ?_, ?_, hglt, HB.out.size⟩
            · exact IsRd.puts HI1.out HR1.out (by omega)
            · exact (by repeat (first | (with_reducible exact HB1.out) | (with_reducible refine Below.setCell ?_ (by have := HB.out.size; simp; omega) _)))
            · exact (by repeat (first | (with_reducible exact HK1.out) | (with_reducible refine KeepBut.setNew ?_ (by simp) _)))
    · have hd1 : decide ((t.fin : Int) < (b.length : Int)) = false := by simpa using hend
      have hd2 : decide (t.fin < b.length) = false := by simpa using hend
      have HR : Aside0 (constant b t = .ok (.num t.num t.pos) (next b t.fin)) := ⟨by
        rw [constant, if_neg (by rw [ho]; decide), List.drop_eq_nil_of_le (by omega)]⟩
      clear hend
      go_enter Tryz.func137, Tryz.ntmps137
      go_wp2_with fail
      go_quiet (fail)
      go_wp2_with fail
      with_reducible refine (pass_calls b t g w0 _ (HI.out.keep (by repeat (first | (with_reducible exact Below.refl _ _) | (with_reducible apply below_alloc) | (with_reducible apply pw_below_drewN) | (with_reducible apply below_drew1)))) (by repeat (first | (with_reducible exact HB.out) | (with_reducible apply below_alloc) | (with_reducible apply pw_below_drewN) | (with_reducible apply below_drew1))) HT.out hlen).mono ?_
      rintro e w1 ⟨rfl, hI1, hB1, hK1⟩
      have hr1 : w1.heap[w.heap.size]? = _ := hK1.blk (new0 w _ _ 0) (by omega) (by simp)
      have ht1 : w1.heap[w.heap.size + 1]? = _ := hK1.blk (new1 w _ _ 0) (by omega) (by simp)
      have he1 : w1.cell? ⟨w.heap.size + 1, 1, none⟩ = some (.int .i64 (t.pos : Int)) := (blk_cell ht1 1).trans rfl
      have he3 : w1.cell? ⟨w.heap.size + 1, 3, none⟩ = some (.int .i64 (t.num : Int)) := (blk_cell ht1 3).trans rfl
      have hd0 : w1.cell? ⟨w.heap.size, 0, none⟩ = some (.string ⟨#[]⟩) := (blk_cell hr1 0).trans rfl
      have hd1 : w1.cell? ⟨w.heap.size, 1, none⟩ = some (.int .i64 0) := (blk_cell hr1 1).trans rfl
      have hd2 : w1.cell? ⟨w.heap.size, 2, none⟩ = some (.string ⟨#[]⟩) := (blk_cell hr1 2).trans rfl
      have hd3 : w1.cell? ⟨w.heap.size, 3, none⟩ = some (.int .i64 0) := (blk_cell hr1 3).trans rfl
      have hd4 : w1.cell? ⟨w.heap.size, 4, none⟩ = some (.int .i64 0) := (blk_cell hr1 4).trans rfl
      have hd5 : w1.cell? ⟨w.heap.size, 5, none⟩ = some (.slice none 0 0) := (blk_cell hr1 5).trans rfl
      have hf0 := blk_frozen hr1 0
      have hf1 := blk_frozen hr1 1
      have hf2 := blk_frozen hr1 2
      have hf3 := blk_frozen hr1 3
      have hf4 := blk_frozen hr1 4
      have hf5 := blk_frozen hr1 5
      have hltr := blk_lt hr1
      have HI1 := Aside0.mk hI1
      have HB1 := Aside0.mk hB1
      have HK1 := Aside0.mk (show KeepBut w w1 g none from by (refine KeepBut.trans (KeepBut.of_below ?_ g none) hK1 (.inl rfl)); repeat (first | (with_reducible exact Below.refl _ _) | (with_reducible apply below_alloc) | (with_reducible apply pw_below_drewN) | (with_reducible apply below_drew1)))
      have HR1 := Aside0.mk hr1
      clear hI1 hB1 hK1 hr1 ht1
      go_wp2_with fail
      rw [HR.out]
      refine bodyPost_ret (v := .agg #[.string (mk wNum), .int .i64 (t.num : Int), .string (mk []), .int .i64 (t.pos : Int), .int .i64 0, .slice none 0 0]) (by simp [results, Tryz.results137, go_sem, mk, wNum, hd0, hd1, hd2, hd3, hd4, hd5]) rfl ⟨⟨_, _, _, _, _, _, _, _, rfl, rfl⟩, ?_, next_ok b _ hfin, ?_, ?_, hglt, HB.out.size⟩
      · exact IsRd.puts HI1.out HR1.out (by omega)
      · exact (by repeat (first | (with_reducible exact HB1.out) | (with_reducible refine Below.setCell ?_ (by have := HB.out.size; simp; omega) _)))
      · exact (by repeat (first | (with_reducible exact HK1.out) | (with_reducible refine KeepBut.setNew ?_ (by simp) _)))
end Go.Proofs.YtjllmamblkejjaaGreatDoor
end

/- What (*arith.reader).operand comes to, its callees by the induction's hypothesis. No conditions. -/
section
set_option linter.unusedVariables false
set_option linter.unusedSimpArgs false
namespace Go.Proofs.YtjllmamblkejjaaGreatDoor
open Go.RowKit Go.Proofs.YtjllmamblkejjaaGreatDoorW.PrintWords Go.Proofs.YtjllmamblkejjaaGreatDoorW.PrintLast Go.Proofs.YtjllmamblkejjaaGreatDoorW.PrintMore
open PQA Sp

def ExprAt (E : Nat → Addr) (w0 : World) (b : Bs) (f : Nat) : Prop := ∀ (g : Nat) (w : World) (t : Tok) (r : Res Ex), Rests w0 w w g b t → expr b f t = r → r ≠ .out →
  Calls Tryz.prog 39 #[.pointer (some ⟨g, 0, none⟩)] w (PPost E w0 w g b r)
def CondAt (E : Nat → Addr) (w0 : World) (b : Bs) (f : Nat) : Prop := ∀ (g : Nat) (w : World) (t : Tok) (r : Res Ex), Rests w0 w w g b t → cond b f t = r → r ≠ .out →
  Calls Tryz.prog 64 #[.pointer (some ⟨g, 0, none⟩)] w (PPost E w0 w g b r)
def OperandAt (E : Nat → Addr) (w0 : World) (b : Bs) (f : Nat) : Prop := ∀ (g : Nat) (w : World) (t : Tok) (r : Res Ex), Rests w0 w w g b t → operand b f t = r → r ≠ .out →
  Calls Tryz.prog 119 #[.pointer (some ⟨g, 0, none⟩)] w (PPost E w0 w g b r)
def BinAt (E : Nat → Addr) (w0 : World) (b : Bs) (f : Nat) : Prop := ∀ (g : Nat) (w : World) (t : Tok) (r : Res Ex) (least : Nat) (li : Int), li = (least : Int) → least ≤ 11 → Rests w0 w w g b t → bin b f least t = r → r ≠ .out →
  Calls Tryz.prog 99 #[.pointer (some ⟨g, 0, none⟩), .int .i64 li] w (PPost E w0 w g b r)

theorem op_is (op v : Bs) : ((mk op).toList == v) = decide (op = v) := by rw [mk_toList, Bool.eq_iff_iff]; simp
theorem op_yes {op v : Bs} (h : op = v) : ((mk op).toList == v) = true := by rw [op_is]; exact decide_eq_true h
theorem op_no {op v : Bs} (h : op ≠ v) : ((mk op).toList == v) = false := by rw [op_is]; exact decide_eq_false h

theorem cat_u (op : Bs) (h : op.length ≤ 3) (w : World) : (Op.stringOp .add ⟨#[117]⟩ (mk op)).run Tryz.prog w = .ok (.string (mk (117 :: op))) w := by
  rw [run_string_add_sum w ⟨#[117]⟩ (mk op) (by rw [mk_size]; show 1 + op.length ≤ _; omega)]
  rfl

theorem ret_gen {P : Program} {fn : Func} {R : Ending → World → Prop} {x : Exit} {a : Act} {w : World} (h : ∀ W, W = w → bodyPost P fn R x a W) : bodyPost P fn R x a w := h w rfl
theorem blk_six {w : World} {r : Nat} {ty : TypeId} {z0 z1 z2 z3 z4 z5 : Value} (h : w.heap[r]? = some (.cells #[z0, z1, z2, z3, z4, z5] ty (0, 0))) (v0 v1 v2 v3 v4 v5 : Value) :
    ((((((w.setCell ⟨r, 0, none⟩ v0).setCell ⟨r, 1, none⟩ v1).setCell ⟨r, 2, none⟩ v2).setCell ⟨r, 3, none⟩ v3).setCell ⟨r, 4, none⟩ v4).setCell ⟨r, 5, none⟩ v5).heap[r]? = some (.cells #[v0, v1, v2, v3, v4, v5] ty (0, 0)) :=
  blk_set (blk_set (blk_set (blk_set (blk_set (blk_set h 0 v0) 1 v1) 2 v2) 3 v3) 4 v4) 5 v5
theorem blk_alloc {w : World} {r : Nat} {o : Obj} (h : w.heap[r]? = some o) (o' : Obj) : (w.alloc o').heap[r]? = some o := (Below.heap_alloc w o' r (blk_lt h)).trans h

set_option maxHeartbeats 4000000 in
set_option maxRecDepth 100000 in
theorem operand_sign (E : Nat → Addr) (w0 : World) (b : Bs) (f : Nat) (hE : Env E w0) (hlen : b.length ≤ 1024) (ih : OperandAt E w0 b f) (g : Nat) (w : World) (t : Tok) (r : Res Ex) (hI : Rests w0 w w g b t)
    (hop : t.op = [43] ∨ t.op = [45]) (hr : operand b (f + 1) t = r) (hro : r ≠ .out) :
    Calls Tryz.prog 119 #[.pointer (some ⟨g, 0, none⟩)] w (PPost E w0 w g b r) := by
  have HI := Aside0.mk hI
  have HE := Aside0.mk hE
  have hglt := hI.lt
  obtain ⟨A, c, hg, hge, hc, hC⟩ := hI.rd
  have hk1 : w.cell? ⟨g, 1, none⟩ = some (.string (mk t.op)) := (blk_cell hg 1).trans rfl
  have hk2 : w.cell? ⟨g, 2, none⟩ = some (.int .i64 (t.pos : Int)) := (blk_cell hg 2).trans rfl
  have hk3 : w.cell? ⟨g, 3, none⟩ = some (.int .i64 (t.fin : Int)) := (blk_cell hg 3).trans rfl
  have hk4 : w.cell? ⟨g, 4, none⟩ = some (.int .i64 (t.num : Int)) := (blk_cell hg 4).trans rfl
  have hk5 : w.cell? ⟨g, 5, none⟩ = some (.bool t.over) := (blk_cell hg 5).trans rfl
  have hk6 : w.cell? ⟨g, 6, none⟩ = some (.string (mk t.name)) := (blk_cell hg 6).trans rfl
  clear hg hC hE hI
  rw [operand, if_pos hop] at hr
  have HR := Aside0.mk hr
  have IH := Aside0.mk ih
  clear ih hr
  rcases hop with hop | hop
  · skip
    have ho0 := op_yes (op := t.op) (v := [43]) (by exact hop)
    have hcat := cat_u t.op (by rw [hop]; simp)
    clear hop
    go_enter Tryz.func119, Tryz.ntmps119
    go_wp2_with fail
    with_reducible refine (pass_rests b t g w0 w _ (by repeat (first | (with_reducible exact HI.out) | (with_reducible apply Rests.drewN) | (with_reducible apply Rests.drew) | (with_reducible apply Rests.alloc) | (with_reducible refine Rests.put ?_ (by first | (simp; done) | (simp; omega)) _))) hlen).mono ?_
    rintro e w1 ⟨rfl, hI1, hK1⟩
    have hr1 : w1.heap[w.heap.size]? = _ := hK1.blk (new0 w _ _ 0) (by omega) (by simp)
    have ht1 : w1.heap[w.heap.size + 1]? = _ := hK1.blk (new1 w _ _ 0) (by omega) (by simp)
    have HI1 := Aside0.mk hI1
    have HR1 := Aside0.mk hr1
    have HT1 := Aside0.mk ht1
    have hltr : w.heap.size + 1 < w1.heap.size := blk_lt ht1
    have he0 : w1.cell? ⟨w.heap.size + 1, 0, none⟩ = some (.string (mk t.op)) := (blk_cell ht1 0).trans rfl
    have he1 : w1.cell? ⟨w.heap.size + 1, 1, none⟩ = some (.int .i64 (t.pos : Int)) := (blk_cell ht1 1).trans rfl
    clear hI1 hK1 hr1 ht1
    have HS := Aside0.mk HI1.out.drew.self
    cases hx : operand b f (next b t.fin) with
    | out => exact absurd HR.out (by rw [hx]; exact fun h => hro h.symm)
    | err c p =>
      obtain rfl : r = .err c p := by rw [← HR.out, hx]; rfl
      have HCl := Aside0.mk (fun W h1 => IH.out g W _ _ h1 hx (by simp))
      go_wp2_with fail
      go_region_dies
      all_goals (go_at_call 119; ((with_reducible refine (HCl.out _ HS.out).mono ?_); rintro e w2 ⟨v, rfl, hv, hb⟩; exact ⟨rfl, v, rfl, hv, hb⟩))
    | ok e1 t1 =>
      obtain rfl : r = .ok (.un (117 :: t.op) t.pos e1) t1 := by rw [← HR.out, hx]; rfl
      have HCl := Aside0.mk (fun W h1 => IH.out g W _ _ h1 hx (by simp))
      clear hx HR IH hro
      go_wp2_with fail
      go_region_held3 (fun w' => w'.cell? ⟨w.heap.size + 1, 0, none⟩ = some (.string (mk t.op)) ∧ w'.cell? ⟨w.heap.size + 1, 1, none⟩ = some (.int .i64 (t.pos : Int)))
        (first | (with_reducible exact ⟨HX.out.1, HX.out.2⟩) | go_keep)
        ((go_at_call 119; ((with_reducible refine (HCl.out _ HS.out).mono ?_); rintro e w2 ⟨⟨s0, n1, s2, n3, n4, A2, n2, c2, rfl, hTr⟩, hI2⟩; have hK2 := KeepBut.drewL hI2.keep; have HX := Aside0.mk (And.intro (keepc hK2 HT1.out (by omega) he0) (keepc hK2 HT1.out (by omega) he1)); have he20 := HX.out.1; have he21 := HX.out.2; have hr2 : w2.heap[w.heap.size]? = _ := hK2.blk HR1.out (by omega) (by simp); have hd0 : w2.cell? ⟨w.heap.size, 0, none⟩ = some (.string ⟨#[]⟩) := (blk_cell hr2 0).trans rfl; have hd1 : w2.cell? ⟨w.heap.size, 1, none⟩ = some (.int .i64 0) := (blk_cell hr2 1).trans rfl; have hd2 : w2.cell? ⟨w.heap.size, 2, none⟩ = some (.string ⟨#[]⟩) := (blk_cell hr2 2).trans rfl; have hd3 : w2.cell? ⟨w.heap.size, 3, none⟩ = some (.int .i64 0) := (blk_cell hr2 3).trans rfl; have hd4 : w2.cell? ⟨w.heap.size, 4, none⟩ = some (.int .i64 0) := (blk_cell hr2 4).trans rfl; have hd5 : w2.cell? ⟨w.heap.size, 5, none⟩ = some (.slice none 0 0) := (blk_cell hr2 5).trans rfl; have hf0 := blk_frozen hr2 0; have hf1 := blk_frozen hr2 1; have hf2 := blk_frozen hr2 2; have hf3 := blk_frozen hr2 3; have hf4 := blk_frozen hr2 4; have hf5 := blk_frozen hr2 5; have HR2 := Aside0.mk hr2; have HTr := Aside0.mk hTr; have HI2 := Aside0.mk (Rests.trans HI1.out.drew hI2); have hlt2 := blk_lt hr2; clear hTr hI2 hK2 hr2)))
      rename_i hHeld
      clear hHeld
      go_wp2_with fail
      refine ret_gen fun W hW => ?_
      have hRes := (congrArg (fun x : World => x.heap[w.heap.size]?) hW).trans (blk_alloc (blk_six HR2.out _ _ _ _ _ _) _)
      have hNew := (congrArg (fun x : World => x.heap[w2.heap.size]?) hW).trans (heap_new (w := w2) (by simp) _)
      have hRW : Rests w0 w W g b t1 := by rw [hW]; exact (by repeat (first | (with_reducible exact HI2.out) | (with_reducible apply Rests.drewN) | (with_reducible apply Rests.drew) | (with_reducible apply Rests.alloc) | (with_reducible refine Rests.put ?_ (by first | (simp; done) | (simp; omega)) _)))
      have hTW := Tr.under (w' := W) (r := w.heap.size) HTr.out (by rw [hW]; repeat (first | (with_reducible exact KeepBut.refl _ _ _) | (with_reducible apply KeepBut.set_) | (with_reducible apply keep_alloc))) (by simp; omega)
      have hq0 := (blk_cell hRes 0).trans rfl; have hq1 := (blk_cell hRes 1).trans rfl; have hq2 := (blk_cell hRes 2).trans rfl; have hq3 := (blk_cell hRes 3).trans rfl; have hq4 := (blk_cell hRes 4).trans rfl; have hq5 := (blk_cell hRes 5).trans rfl
      clear hW
      refine bodyPost_ret (v := .agg #[.string (mk (117 :: t.op)), .int .i64 ((0 : Nat) : Int), .string (mk []), .int .i64 (t.pos : Int), .int .i64 ((0 : Nat) : Int), .slice (some ⟨w2.heap.size, 0, none⟩) 1 1]) (by simp [results, Tryz.results119, go_sem, hq0, hq1, hq2, hq3, hq4, hq5]; try rfl) rfl ⟨⟨_, _, _, _, _, _, _, _, rfl, ⟨w2.heap.size, 1, [.string s0, .int .i64 n1, .string s2, .int .i64 n3, .int .i64 n4, .slice A2 n2 c2], [], ?_, by omega, hNew, rfl, ?_⟩⟩, hRW⟩
      · exact Nat.le_of_lt hlt2
      · exact Tr.lo (by simp; omega) _ _ hTW
  · skip
    have ho0 := op_no (op := t.op) (v := [43]) (by rw [hop]; decide)
    have ho1 := op_yes (op := t.op) (v := [45]) (by exact hop)
    have hcat := cat_u t.op (by rw [hop]; simp)
    clear hop
    go_enter Tryz.func119, Tryz.ntmps119
    go_wp2_with fail
    with_reducible refine (pass_rests b t g w0 w _ (by repeat (first | (with_reducible exact HI.out) | (with_reducible apply Rests.drewN) | (with_reducible apply Rests.drew) | (with_reducible apply Rests.alloc) | (with_reducible refine Rests.put ?_ (by first | (simp; done) | (simp; omega)) _))) hlen).mono ?_
    rintro e w1 ⟨rfl, hI1, hK1⟩
    have hr1 : w1.heap[w.heap.size]? = _ := hK1.blk (new0 w _ _ 0) (by omega) (by simp)
    have ht1 : w1.heap[w.heap.size + 1]? = _ := hK1.blk (new1 w _ _ 0) (by omega) (by simp)
    have HI1 := Aside0.mk hI1
    have HR1 := Aside0.mk hr1
    have HT1 := Aside0.mk ht1
    have hltr : w.heap.size + 1 < w1.heap.size := blk_lt ht1
    have he0 : w1.cell? ⟨w.heap.size + 1, 0, none⟩ = some (.string (mk t.op)) := (blk_cell ht1 0).trans rfl
    have he1 : w1.cell? ⟨w.heap.size + 1, 1, none⟩ = some (.int .i64 (t.pos : Int)) := (blk_cell ht1 1).trans rfl
    clear hI1 hK1 hr1 ht1
    have HS := Aside0.mk HI1.out.drew.self
    cases hx : operand b f (next b t.fin) with
    | out => exact absurd HR.out (by rw [hx]; exact fun h => hro h.symm)
    | err c p =>
      obtain rfl : r = .err c p := by rw [← HR.out, hx]; rfl
      have HCl := Aside0.mk (fun W h1 => IH.out g W _ _ h1 hx (by simp))
      go_wp2_with fail
      go_region_dies
      all_goals (go_at_call 119; ((with_reducible refine (HCl.out _ HS.out).mono ?_); rintro e w2 ⟨v, rfl, hv, hb⟩; exact ⟨rfl, v, rfl, hv, hb⟩))
    | ok e1 t1 =>
      obtain rfl : r = .ok (.un (117 :: t.op) t.pos e1) t1 := by rw [← HR.out, hx]; rfl
      have HCl := Aside0.mk (fun W h1 => IH.out g W _ _ h1 hx (by simp))
      clear hx HR IH hro
      go_wp2_with fail
      go_region_held3 (fun w' => w'.cell? ⟨w.heap.size + 1, 0, none⟩ = some (.string (mk t.op)) ∧ w'.cell? ⟨w.heap.size + 1, 1, none⟩ = some (.int .i64 (t.pos : Int)))
        (first | (with_reducible exact ⟨HX.out.1, HX.out.2⟩) | go_keep)
        ((go_at_call 119; ((with_reducible refine (HCl.out _ HS.out).mono ?_); rintro e w2 ⟨⟨s0, n1, s2, n3, n4, A2, n2, c2, rfl, hTr⟩, hI2⟩; have hK2 := KeepBut.drewL hI2.keep; have HX := Aside0.mk (And.intro (keepc hK2 HT1.out (by omega) he0) (keepc hK2 HT1.out (by omega) he1)); have he20 := HX.out.1; have he21 := HX.out.2; have hr2 : w2.heap[w.heap.size]? = _ := hK2.blk HR1.out (by omega) (by simp); have hd0 : w2.cell? ⟨w.heap.size, 0, none⟩ = some (.string ⟨#[]⟩) := (blk_cell hr2 0).trans rfl; have hd1 : w2.cell? ⟨w.heap.size, 1, none⟩ = some (.int .i64 0) := (blk_cell hr2 1).trans rfl; have hd2 : w2.cell? ⟨w.heap.size, 2, none⟩ = some (.string ⟨#[]⟩) := (blk_cell hr2 2).trans rfl; have hd3 : w2.cell? ⟨w.heap.size, 3, none⟩ = some (.int .i64 0) := (blk_cell hr2 3).trans rfl; have hd4 : w2.cell? ⟨w.heap.size, 4, none⟩ = some (.int .i64 0) := (blk_cell hr2 4).trans rfl; have hd5 : w2.cell? ⟨w.heap.size, 5, none⟩ = some (.slice none 0 0) := (blk_cell hr2 5).trans rfl; have hf0 := blk_frozen hr2 0; have hf1 := blk_frozen hr2 1; have hf2 := blk_frozen hr2 2; have hf3 := blk_frozen hr2 3; have hf4 := blk_frozen hr2 4; have hf5 := blk_frozen hr2 5; have HR2 := Aside0.mk hr2; have HTr := Aside0.mk hTr; have HI2 := Aside0.mk (Rests.trans HI1.out.drew hI2); have hlt2 := blk_lt hr2; clear hTr hI2 hK2 hr2)))
      rename_i hHeld
      clear hHeld
      go_wp2_with fail
      refine ret_gen fun W hW => ?_
      have hRes := (congrArg (fun x : World => x.heap[w.heap.size]?) hW).trans (blk_alloc (blk_six HR2.out _ _ _ _ _ _) _)
      have hNew := (congrArg (fun x : World => x.heap[w2.heap.size]?) hW).trans (heap_new (w := w2) (by simp) _)
      have hRW : Rests w0 w W g b t1 := by rw [hW]; exact (by repeat (first | (with_reducible exact HI2.out) | (with_reducible apply Rests.drewN) | (with_reducible apply Rests.drew) | (with_reducible apply Rests.alloc) | (with_reducible refine Rests.put ?_ (by first | (simp; done) | (simp; omega)) _)))
      have hTW := Tr.under (w' := W) (r := w.heap.size) HTr.out (by rw [hW]; repeat (first | (with_reducible exact KeepBut.refl _ _ _) | (with_reducible apply KeepBut.set_) | (with_reducible apply keep_alloc))) (by simp; omega)
      have hq0 := (blk_cell hRes 0).trans rfl; have hq1 := (blk_cell hRes 1).trans rfl; have hq2 := (blk_cell hRes 2).trans rfl; have hq3 := (blk_cell hRes 3).trans rfl; have hq4 := (blk_cell hRes 4).trans rfl; have hq5 := (blk_cell hRes 5).trans rfl
      clear hW
      refine bodyPost_ret (v := .agg #[.string (mk (117 :: t.op)), .int .i64 ((0 : Nat) : Int), .string (mk []), .int .i64 (t.pos : Int), .int .i64 ((0 : Nat) : Int), .slice (some ⟨w2.heap.size, 0, none⟩) 1 1]) (by simp [results, Tryz.results119, go_sem, hq0, hq1, hq2, hq3, hq4, hq5]; try rfl) rfl ⟨⟨_, _, _, _, _, _, _, _, rfl, ⟨w2.heap.size, 1, [.string s0, .int .i64 n1, .string s2, .int .i64 n3, .int .i64 n4, .slice A2 n2 c2], [], ?_, by omega, hNew, rfl, ?_⟩⟩, hRW⟩
      · exact Nat.le_of_lt hlt2
      · exact Tr.lo (by simp; omega) _ _ hTW

set_option maxHeartbeats 4000000 in
set_option maxRecDepth 100000 in
theorem operand_not (E : Nat → Addr) (w0 : World) (b : Bs) (f : Nat) (hE : Env E w0) (hlen : b.length ≤ 1024) (ih : OperandAt E w0 b f) (g : Nat) (w : World) (t : Tok) (r : Res Ex) (hI : Rests w0 w w g b t)
    (hop : t.op = [33] ∨ t.op = [126]) (hr : operand b (f + 1) t = r) (hro : r ≠ .out) :
    Calls Tryz.prog 119 #[.pointer (some ⟨g, 0, none⟩)] w (PPost E w0 w g b r) := by
  have HI := Aside0.mk hI
  have HE := Aside0.mk hE
  have hglt := hI.lt
  obtain ⟨A, c, hg, hge, hc, hC⟩ := hI.rd
  have hk1 : w.cell? ⟨g, 1, none⟩ = some (.string (mk t.op)) := (blk_cell hg 1).trans rfl
  have hk2 : w.cell? ⟨g, 2, none⟩ = some (.int .i64 (t.pos : Int)) := (blk_cell hg 2).trans rfl
  have hk3 : w.cell? ⟨g, 3, none⟩ = some (.int .i64 (t.fin : Int)) := (blk_cell hg 3).trans rfl
  have hk4 : w.cell? ⟨g, 4, none⟩ = some (.int .i64 (t.num : Int)) := (blk_cell hg 4).trans rfl
  have hk5 : w.cell? ⟨g, 5, none⟩ = some (.bool t.over) := (blk_cell hg 5).trans rfl
  have hk6 : w.cell? ⟨g, 6, none⟩ = some (.string (mk t.name)) := (blk_cell hg 6).trans rfl
  clear hg hC hE hI
  rw [operand, if_neg (by rcases hop with h | h <;> rw [h] <;> decide), if_pos hop] at hr
  have HR := Aside0.mk hr
  have IH := Aside0.mk ih
  clear ih hr
  rcases hop with hop | hop
  · skip
    have ho0 := op_no (op := t.op) (v := [43]) (by rw [hop]; decide)
    have ho1 := op_no (op := t.op) (v := [45]) (by rw [hop]; decide)
    have ho2 := op_yes (op := t.op) (v := [33]) (by exact hop)
    clear hop
    go_enter Tryz.func119, Tryz.ntmps119
    go_wp2_with fail
    with_reducible refine (pass_rests b t g w0 w _ (by repeat (first | (with_reducible exact HI.out) | (with_reducible apply Rests.drewN) | (with_reducible apply Rests.drew) | (with_reducible apply Rests.alloc) | (with_reducible refine Rests.put ?_ (by first | (simp; done) | (simp; omega)) _))) hlen).mono ?_
    rintro e w1 ⟨rfl, hI1, hK1⟩
    have hr1 : w1.heap[w.heap.size]? = _ := hK1.blk (new0 w _ _ 0) (by omega) (by simp)
    have ht1 : w1.heap[w.heap.size + 1]? = _ := hK1.blk (new1 w _ _ 0) (by omega) (by simp)
    have HI1 := Aside0.mk hI1
    have HR1 := Aside0.mk hr1
    have HT1 := Aside0.mk ht1
    have hltr : w.heap.size + 1 < w1.heap.size := blk_lt ht1
    have he0 : w1.cell? ⟨w.heap.size + 1, 0, none⟩ = some (.string (mk t.op)) := (blk_cell ht1 0).trans rfl
    have he1 : w1.cell? ⟨w.heap.size + 1, 1, none⟩ = some (.int .i64 (t.pos : Int)) := (blk_cell ht1 1).trans rfl
    clear hI1 hK1 hr1 ht1
    have HS := Aside0.mk HI1.out.drew.self
    cases hx : operand b f (next b t.fin) with
    | out => exact absurd HR.out (by rw [hx]; exact fun h => hro h.symm)
    | err c p =>
      obtain rfl : r = .err c p := by rw [← HR.out, hx]; rfl
      have HCl := Aside0.mk (fun W h1 => IH.out g W _ _ h1 hx (by simp))
      go_wp2_with fail
      go_region_dies
      all_goals (go_at_call 119; ((with_reducible refine (HCl.out _ HS.out).mono ?_); rintro e w2 ⟨v, rfl, hv, hb⟩; exact ⟨rfl, v, rfl, hv, hb⟩))
    | ok e1 t1 =>
      obtain rfl : r = .ok (.un t.op t.pos e1) t1 := by rw [← HR.out, hx]; rfl
      have HCl := Aside0.mk (fun W h1 => IH.out g W _ _ h1 hx (by simp))
      clear hx HR IH hro
      go_wp2_with fail
      go_region_held3 (fun w' => w'.cell? ⟨w.heap.size + 1, 0, none⟩ = some (.string (mk t.op)) ∧ w'.cell? ⟨w.heap.size + 1, 1, none⟩ = some (.int .i64 (t.pos : Int)))
        (first | (with_reducible exact ⟨HX.out.1, HX.out.2⟩) | go_keep)
        ((go_at_call 119; ((with_reducible refine (HCl.out _ HS.out).mono ?_); rintro e w2 ⟨⟨s0, n1, s2, n3, n4, A2, n2, c2, rfl, hTr⟩, hI2⟩; have hK2 := KeepBut.drewL hI2.keep; have HX := Aside0.mk (And.intro (keepc hK2 HT1.out (by omega) he0) (keepc hK2 HT1.out (by omega) he1)); have he20 := HX.out.1; have he21 := HX.out.2; have hr2 : w2.heap[w.heap.size]? = _ := hK2.blk HR1.out (by omega) (by simp); have hd0 : w2.cell? ⟨w.heap.size, 0, none⟩ = some (.string ⟨#[]⟩) := (blk_cell hr2 0).trans rfl; have hd1 : w2.cell? ⟨w.heap.size, 1, none⟩ = some (.int .i64 0) := (blk_cell hr2 1).trans rfl; have hd2 : w2.cell? ⟨w.heap.size, 2, none⟩ = some (.string ⟨#[]⟩) := (blk_cell hr2 2).trans rfl; have hd3 : w2.cell? ⟨w.heap.size, 3, none⟩ = some (.int .i64 0) := (blk_cell hr2 3).trans rfl; have hd4 : w2.cell? ⟨w.heap.size, 4, none⟩ = some (.int .i64 0) := (blk_cell hr2 4).trans rfl; have hd5 : w2.cell? ⟨w.heap.size, 5, none⟩ = some (.slice none 0 0) := (blk_cell hr2 5).trans rfl; have hf0 := blk_frozen hr2 0; have hf1 := blk_frozen hr2 1; have hf2 := blk_frozen hr2 2; have hf3 := blk_frozen hr2 3; have hf4 := blk_frozen hr2 4; have hf5 := blk_frozen hr2 5; have HR2 := Aside0.mk hr2; have HTr := Aside0.mk hTr; have HI2 := Aside0.mk (Rests.trans HI1.out.drew hI2); have hlt2 := blk_lt hr2; clear hTr hI2 hK2 hr2)))
      rename_i hHeld
      clear hHeld
      go_wp2_with fail
      refine ret_gen fun W hW => ?_
      have hRes := (congrArg (fun x : World => x.heap[w.heap.size]?) hW).trans (blk_alloc (blk_six HR2.out _ _ _ _ _ _) _)
      have hNew := (congrArg (fun x : World => x.heap[w2.heap.size]?) hW).trans (heap_new (w := w2) (by simp) _)
      have hRW : Rests w0 w W g b t1 := by rw [hW]; exact (by repeat (first | (with_reducible exact HI2.out) | (with_reducible apply Rests.drewN) | (with_reducible apply Rests.drew) | (with_reducible apply Rests.alloc) | (with_reducible refine Rests.put ?_ (by first | (simp; done) | (simp; omega)) _)))
      have hTW := Tr.under (w' := W) (r := w.heap.size) HTr.out (by rw [hW]; repeat (first | (with_reducible exact KeepBut.refl _ _ _) | (with_reducible apply KeepBut.set_) | (with_reducible apply keep_alloc))) (by simp; omega)
      have hq0 := (blk_cell hRes 0).trans rfl; have hq1 := (blk_cell hRes 1).trans rfl; have hq2 := (blk_cell hRes 2).trans rfl; have hq3 := (blk_cell hRes 3).trans rfl; have hq4 := (blk_cell hRes 4).trans rfl; have hq5 := (blk_cell hRes 5).trans rfl
      clear hW
      refine bodyPost_ret (v := .agg #[.string (mk t.op), .int .i64 ((0 : Nat) : Int), .string (mk []), .int .i64 (t.pos : Int), .int .i64 ((0 : Nat) : Int), .slice (some ⟨w2.heap.size, 0, none⟩) 1 1]) (by simp [results, Tryz.results119, go_sem, hq0, hq1, hq2, hq3, hq4, hq5]; try rfl) rfl ⟨⟨_, _, _, _, _, _, _, _, rfl, ⟨w2.heap.size, 1, [.string s0, .int .i64 n1, .string s2, .int .i64 n3, .int .i64 n4, .slice A2 n2 c2], [], ?_, by omega, hNew, rfl, ?_⟩⟩, hRW⟩
      · exact Nat.le_of_lt hlt2
      · exact Tr.lo (by simp; omega) _ _ hTW
  · skip
    have ho0 := op_no (op := t.op) (v := [43]) (by rw [hop]; decide)
    have ho1 := op_no (op := t.op) (v := [45]) (by rw [hop]; decide)
    have ho2 := op_no (op := t.op) (v := [33]) (by rw [hop]; decide)
    have ho3 := op_yes (op := t.op) (v := [126]) (by exact hop)
    clear hop
    go_enter Tryz.func119, Tryz.ntmps119
    go_wp2_with fail
    with_reducible refine (pass_rests b t g w0 w _ (by repeat (first | (with_reducible exact HI.out) | (with_reducible apply Rests.drewN) | (with_reducible apply Rests.drew) | (with_reducible apply Rests.alloc) | (with_reducible refine Rests.put ?_ (by first | (simp; done) | (simp; omega)) _))) hlen).mono ?_
    rintro e w1 ⟨rfl, hI1, hK1⟩
    have hr1 : w1.heap[w.heap.size]? = _ := hK1.blk (new0 w _ _ 0) (by omega) (by simp)
    have ht1 : w1.heap[w.heap.size + 1]? = _ := hK1.blk (new1 w _ _ 0) (by omega) (by simp)
    have HI1 := Aside0.mk hI1
    have HR1 := Aside0.mk hr1
    have HT1 := Aside0.mk ht1
    have hltr : w.heap.size + 1 < w1.heap.size := blk_lt ht1
    have he0 : w1.cell? ⟨w.heap.size + 1, 0, none⟩ = some (.string (mk t.op)) := (blk_cell ht1 0).trans rfl
    have he1 : w1.cell? ⟨w.heap.size + 1, 1, none⟩ = some (.int .i64 (t.pos : Int)) := (blk_cell ht1 1).trans rfl
    clear hI1 hK1 hr1 ht1
    have HS := Aside0.mk HI1.out.drew.self
    cases hx : operand b f (next b t.fin) with
    | out => exact absurd HR.out (by rw [hx]; exact fun h => hro h.symm)
    | err c p =>
      obtain rfl : r = .err c p := by rw [← HR.out, hx]; rfl
      have HCl := Aside0.mk (fun W h1 => IH.out g W _ _ h1 hx (by simp))
      go_wp2_with fail
      go_region_dies
      all_goals (go_at_call 119; ((with_reducible refine (HCl.out _ HS.out).mono ?_); rintro e w2 ⟨v, rfl, hv, hb⟩; exact ⟨rfl, v, rfl, hv, hb⟩))
    | ok e1 t1 =>
      obtain rfl : r = .ok (.un t.op t.pos e1) t1 := by rw [← HR.out, hx]; rfl
      have HCl := Aside0.mk (fun W h1 => IH.out g W _ _ h1 hx (by simp))
      clear hx HR IH hro
      go_wp2_with fail
      go_region_held3 (fun w' => w'.cell? ⟨w.heap.size + 1, 0, none⟩ = some (.string (mk t.op)) ∧ w'.cell? ⟨w.heap.size + 1, 1, none⟩ = some (.int .i64 (t.pos : Int)))
        (first | (with_reducible exact ⟨HX.out.1, HX.out.2⟩) | go_keep)
        ((go_at_call 119; ((with_reducible refine (HCl.out _ HS.out).mono ?_); rintro e w2 ⟨⟨s0, n1, s2, n3, n4, A2, n2, c2, rfl, hTr⟩, hI2⟩; have hK2 := KeepBut.drewL hI2.keep; have HX := Aside0.mk (And.intro (keepc hK2 HT1.out (by omega) he0) (keepc hK2 HT1.out (by omega) he1)); have he20 := HX.out.1; have he21 := HX.out.2; have hr2 : w2.heap[w.heap.size]? = _ := hK2.blk HR1.out (by omega) (by simp); have hd0 : w2.cell? ⟨w.heap.size, 0, none⟩ = some (.string ⟨#[]⟩) := (blk_cell hr2 0).trans rfl; have hd1 : w2.cell? ⟨w.heap.size, 1, none⟩ = some (.int .i64 0) := (blk_cell hr2 1).trans rfl; have hd2 : w2.cell? ⟨w.heap.size, 2, none⟩ = some (.string ⟨#[]⟩) := (blk_cell hr2 2).trans rfl; have hd3 : w2.cell? ⟨w.heap.size, 3, none⟩ = some (.int .i64 0) := (blk_cell hr2 3).trans rfl; have hd4 : w2.cell? ⟨w.heap.size, 4, none⟩ = some (.int .i64 0) := (blk_cell hr2 4).trans rfl; have hd5 : w2.cell? ⟨w.heap.size, 5, none⟩ = some (.slice none 0 0) := (blk_cell hr2 5).trans rfl; have hf0 := blk_frozen hr2 0; have hf1 := blk_frozen hr2 1; have hf2 := blk_frozen hr2 2; have hf3 := blk_frozen hr2 3; have hf4 := blk_frozen hr2 4; have hf5 := blk_frozen hr2 5; have HR2 := Aside0.mk hr2; have HTr := Aside0.mk hTr; have HI2 := Aside0.mk (Rests.trans HI1.out.drew hI2); have hlt2 := blk_lt hr2; clear hTr hI2 hK2 hr2)))
      rename_i hHeld
      clear hHeld
      go_wp2_with fail
      refine ret_gen fun W hW => ?_
      have hRes := (congrArg (fun x : World => x.heap[w.heap.size]?) hW).trans (blk_alloc (blk_six HR2.out _ _ _ _ _ _) _)
      have hNew := (congrArg (fun x : World => x.heap[w2.heap.size]?) hW).trans (heap_new (w := w2) (by simp) _)
      have hRW : Rests w0 w W g b t1 := by rw [hW]; exact (by repeat (first | (with_reducible exact HI2.out) | (with_reducible apply Rests.drewN) | (with_reducible apply Rests.drew) | (with_reducible apply Rests.alloc) | (with_reducible refine Rests.put ?_ (by first | (simp; done) | (simp; omega)) _)))
      have hTW := Tr.under (w' := W) (r := w.heap.size) HTr.out (by rw [hW]; repeat (first | (with_reducible exact KeepBut.refl _ _ _) | (with_reducible apply KeepBut.set_) | (with_reducible apply keep_alloc))) (by simp; omega)
      have hq0 := (blk_cell hRes 0).trans rfl; have hq1 := (blk_cell hRes 1).trans rfl; have hq2 := (blk_cell hRes 2).trans rfl; have hq3 := (blk_cell hRes 3).trans rfl; have hq4 := (blk_cell hRes 4).trans rfl; have hq5 := (blk_cell hRes 5).trans rfl
      clear hW
      refine bodyPost_ret (v := .agg #[.string (mk t.op), .int .i64 ((0 : Nat) : Int), .string (mk []), .int .i64 (t.pos : Int), .int .i64 ((0 : Nat) : Int), .slice (some ⟨w2.heap.size, 0, none⟩) 1 1]) (by simp [results, Tryz.results119, go_sem, hq0, hq1, hq2, hq3, hq4, hq5]; try rfl) rfl ⟨⟨_, _, _, _, _, _, _, _, rfl, ⟨w2.heap.size, 1, [.string s0, .int .i64 n1, .string s2, .int .i64 n3, .int .i64 n4, .slice A2 n2 c2], [], ?_, by omega, hNew, rfl, ?_⟩⟩, hRW⟩
      · exact Nat.le_of_lt hlt2
      · exact Tr.lo (by simp; omega) _ _ hTW
end Go.Proofs.YtjllmamblkejjaaGreatDoor
end
