/- Several texts in one. -/
import Derived.Test.YtepngbdjobckbaaGreatGL
import Derived.Test.YtepngbdjobckbaaGreatRows
import Derived.Laws.StructEq
section
namespace Go.Proofs.YtepngbdjobckbaaGreat
open Go.RowKit
set_option linter.unusedVariables false

/-- A machine of the document: what it is, where it stands, its channel, its thread; its numbers; how it ended. -/
structure Mc where
  what : Nat
  at_ : Nat
  ch : Nat
  th : Nat
  ix : Int
  kd : Int
  v : Int
  t : Int
  h : Int
  ok : Int
  ov : Int
deriving DecidableEq
structure Acc where
  k : Int
  a : Int
  o : Int
  n : Int
deriving DecidableEq
def Acc.cells (x : Acc) : Array Value := #[.int .i64 x.k, .int .i64 x.a, .int .u64 x.o, .int .u64 x.n, .int .i64 0]
def Mc.cells (A : Option Addr) (n c : Nat) (B : Option Addr) (m d : Nat) (t : Int) (x : Mc) : Array Value :=
  #[.int .i64 (x.what : Nat), .int .i64 (x.at_ : Nat), .slice A n c, .slice B m d, .int .i64 t, .int .i64 (x.ch : Nat), .int .i64 (x.th : Nat), .int .i64 x.ix, .int .i64 x.kd, .int .u64 x.v, .int .u64 x.t, .int .u64 x.h, .int .i64 x.ok, .int .u64 x.ov]
def u64 (x : Int) : Prop := 0 ≤ x ∧ x ≤ 18446744073709551615
/-- The first word of a slot. -/
def slN (l : List Int) (ch : Nat) (s : Int) : Int := tlN l ch + 5 + 2 * sl s (sz (l.getD ch 0))
/-- The first word of a thread. -/
def clN (l : List Int) (th : Nat) : Int := tlN l l.length + th * 11
/-- The access that a machine makes next. -/
def mnext (l : List Int) (x : Mc) : Acc :=
  if x.at_ = 0 then ⟨0, 0, 0, 0⟩ else
  match x.what with
  | 1 => ⟨3, tlN l x.ch + 2, 0, 1⟩
  | 2 => ⟨2, tlN l x.ch + 2, 0, 0⟩
  | 3 => match x.at_ with
    | 1 => ⟨1, tlN l x.ch, 0, 0⟩
    | 3 => ⟨1, tlN l x.ch, 0, 0⟩
    | 2 => ⟨1, tlN l x.ch + 1, 0, 0⟩
    | 4 => ⟨1, slN l x.ch (x.t / 2), 0, 0⟩
    | 5 => ⟨3, tlN l x.ch, x.t, pk (nx (x.t / 2) 1) false⟩
    | 6 => ⟨6, slN l x.ch (x.t / 2) + 1, 0, x.v⟩
    | _ => ⟨2, slN l x.ch (x.t / 2), 0, nx (x.t / 2) 1⟩
  | 4 => match x.at_ with
    | 1 => ⟨1, tlN l x.ch + 1, 0, 0⟩
    | 3 => ⟨1, tlN l x.ch + 1, 0, 0⟩
    | 2 => ⟨1, tlN l x.ch, 0, 0⟩
    | 4 => ⟨1, slN l x.ch x.h, 0, 0⟩
    | 5 => ⟨3, tlN l x.ch + 1, x.h, nx x.h 1⟩
    | 6 => ⟨5, slN l x.ch x.h + 1, 0, 0⟩
    | _ => ⟨2, slN l x.ch x.h, 0, nx x.h (sz (l.getD x.ch 0))⟩
  | 5 => match x.at_ with
    | 1 => ⟨1, tlN l x.ch, 0, 0⟩
    | _ => ⟨3, tlN l x.ch, x.t, pk (x.t / 2) true⟩
  | 6 => match x.at_ with
    | 2 => ⟨1, tlN l x.ch + 1, 0, 0⟩
    | _ => ⟨1, tlN l x.ch, 0, 0⟩
  | 7 => ⟨3, clN l x.th, 1, 2⟩
  | 8 => ⟨2, clN l x.th, 0, 1⟩
  | 11 => ⟨2, clN l x.th, 0, 0⟩
  | 10 => ⟨3, clN l x.th, 1, 4⟩
  | _ => match x.at_ with
    | 1 => ⟨6, clN l x.th + 3, 0, x.ix % 18446744073709551616⟩
    | 2 => ⟨6, clN l x.th + 2, 0, x.kd % 18446744073709551616⟩
    | 3 => ⟨6, clN l x.th + 4, 0, x.v⟩
    | 4 => ⟨2, clN l x.th, 0, 3⟩
    | _ => ⟨2, clN l x.th + 1, 0, 1⟩
def mend (x : Mc) (k v : Int) : Mc := { x with at_ := 0, ok := k, ov := v }
def mto (x : Mc) (i : Nat) : Mc := { x with at_ := i }
/-- How many values lie between a tail word and a head. -/
def rest (a b : Int) : Int := (a - b) % 9223372036854775808
def mpush (cap : Int) (x : Mc) (a : Int) (y : Bool) : Mc :=
  match x.at_ with
  | 1 => if cl a then mend { x with t := a } 4 0 else mto { x with t := a } 2
  | 2 => if rest (x.t / 2) a = cap then mto x 3 else if cap < rest (x.t / 2) a then mto x 1 else mto x 4
  | 3 => if a = x.t then mend x 2 0 else if cl a then mend { x with t := a } 4 0 else mto { x with t := a } 2
  | 4 => if a = x.t / 2 then mto x 5 else mto x 1
  | 5 => if y then mto x 6 else mto x 1
  | 6 => mto x 7
  | _ => mend x 1 0
def mpop (cap : Int) (x : Mc) (a : Int) (y : Bool) : Mc :=
  match x.at_ with
  | 1 => mto { x with h := a } 2
  | 2 => if rest (a / 2) x.h = 0 then mto { x with t := a } 3 else if cap < rest (a / 2) x.h then mto { x with t := a } 1 else mto { x with t := a } 4
  | 3 => if a ≠ x.h then mto { x with h := a } 2 else if cl x.t then mend x 5 0 else mend x 3 0
  | 4 => if a = nx x.h 1 then mto x 5 else mto x 1
  | 5 => if y then mto x 6 else mto x 1
  | 6 => mto { x with v := a } 7
  | _ => mend x 6 x.v
def mshut (x : Mc) (a : Int) (y : Bool) : Mc :=
  match x.at_ with
  | 1 => if cl a then mend { x with t := a } 4 0 else mto { x with t := a } 2
  | _ => if y then mend x 1 0 else mto x 1
def mcount (x : Mc) (a : Int) : Mc :=
  match x.at_ with
  | 1 => mto { x with t := a } 2
  | 2 => mto { x with h := a } 3
  | _ => if a = x.t then mend x 9 (rest (x.t / 2) x.h) else mto { x with t := a } 2
/-- A machine behind an answer: its value, and whether it was done. -/
def mres (l : List Int) (x : Mc) (a : Int) (y : Bool) : Mc :=
  if x.at_ = 0 then x else
  match x.what with
  | 1 => if y then mend x 1 0 else x
  | 3 => mpush (l.getD x.ch 0) x a y
  | 4 => mpop (l.getD x.ch 0) x a y
  | 5 => mshut x a y
  | 6 => mcount x a
  | 7 => if y then mend x 7 0 else if a = 2 then x else mend x 8 0
  | 10 => if y then mend x 7 0 else mend x 8 0
  | 9 => if x.at_ < 5 then mto x (x.at_ + 1) else mend x 1 0
  | _ => mend x 1 0
end Go.Proofs.YtepngbdjobckbaaGreat
end
section
namespace Go.Proofs.YtepngbdjobckbaaGreat
open Go.RowKit
theorem eqi (d : Nat) (a b : Int) (W : World) : (Op.equalIn (d + 1) 3 (.int .i64 a) (.int .i64 b)).run Tryz.prog W = .ok (a == b) W := run_equalIn_int W d 3 .i64 _ a b Tryz.underlying3
theorem equ (d : Nat) (a b : Int) (W : World) : (Op.equalIn (d + 1) 42 (.int .u64 a) (.int .u64 b)).run Tryz.prog W = .ok (a == b) W := run_equalIn_int W d 42 .u64 _ a b Tryz.underlying42
set_option maxRecDepth 100000 in
theorem eq_out (W : World) (k v k' v' : Int) : (binOp .eql 47 (.agg #[.int .i64 k, .int .u64 v]) (.agg #[.int .i64 k', .int .u64 v'])).run Tryz.prog W = .ok (.bool (k == k' && v == v')) W := by
  have e1 := eqi 9998
  have e2 := equ 9998
  rw [run_eql_struct, show (10000 : Nat) = 9999 + 1 from rfl, run_equalIn_struct W 9999 47 _ _ (by kernel_rfl) (by kernel_rfl)]
  simp only [Program.fieldsOf, Tryz.underlying47, Op.eqFields]
  by_cases h1 : k = k' <;> by_cases h2 : v = v' <;> simp [part, isAgg, run_underlying Tryz.underlying3, run_underlying Tryz.underlying42, e1, e2, h1, h2]
set_option maxRecDepth 100000 in
theorem eq_acc (W : World) (x y : Acc) : (binOp .eql 56 (.agg (Acc.cells x)) (.agg (Acc.cells y))).run Tryz.prog W = .ok (.bool (decide (x = y))) W := by
  have e1 := eqi 9998
  have e2 := equ 9998
  obtain ⟨k, a, o, n⟩ := x
  obtain ⟨k', a', o', n'⟩ := y
  rw [run_eql_struct, show (10000 : Nat) = 9999 + 1 from rfl, run_equalIn_struct W 9999 56 _ _ (by kernel_rfl) (by kernel_rfl)]
  simp only [Program.fieldsOf, Tryz.underlying56, Op.eqFields, Acc.cells]
  by_cases h1 : k = k' <;> by_cases h2 : a = a' <;> by_cases h3 : o = o' <;> by_cases h4 : n = n' <;> simp [part, isAgg, run_underlying Tryz.underlying3, run_underlying Tryz.underlying42, e1, e2, h1, h2, h3, h4]
end Go.Proofs.YtepngbdjobckbaaGreat
end
