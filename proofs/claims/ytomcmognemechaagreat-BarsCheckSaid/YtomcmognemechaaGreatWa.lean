import Derived.Test.YtomcmognemechaaGreatEd
/- What a view's flaws are: a list, code by code. -/
namespace Go.Eng
abbrev Fl := Int × Int × Int
def encF (x : Fl) : List Value := [.int .i64 x.1, .int .i64 x.2.1, .int .i64 x.2.2]
/-- a net and a view, all their numbers in range -/
structure Vw where
  n : Nat
  m : Nat
  Y : Nat → Int
  L : Nat → Int
  R : Nat → Int
  X : Nat → Int
  a : Nat → Nat
  b : Nat → Nat
namespace Vw
variable (w : Vw)
def lo (e : Nat) : Int := min (w.Y (w.a e)) (w.Y (w.b e))
def hi (e : Nat) : Int := max (w.Y (w.a e)) (w.Y (w.b e))
def b2 (v : Nat) : Bool := decide (w.L v > w.R v ∨ w.L v < 0 ∨ w.R v > 1048576 ∨ w.Y v < 0 ∨ w.Y v > 1048576)
def b3 (e : Nat) : Bool := decide (w.X e < w.L (w.a e) ∨ w.X e > w.R (w.a e) ∨ w.X e < w.L (w.b e) ∨ w.X e > w.R (w.b e) ∨ w.Y (w.a e) = w.Y (w.b e))
def b4 (u v : Nat) : Bool := decide (w.Y u = w.Y v ∧ w.L u ≤ w.R v ∧ w.L v ≤ w.R u)
def b5 (e v : Nat) : Bool := decide (v ≠ w.a e ∧ v ≠ w.b e ∧ w.L v ≤ w.X e ∧ w.X e ≤ w.R v ∧ w.lo e < w.Y v ∧ w.Y v < w.hi e)
def b6 (e f : Nat) : Bool := decide (w.X e = w.X f ∧ max (w.lo e) (w.lo f) < min (w.hi e) (w.hi f))
end Vw
def sel (p : Bool) (x : Fl) : List Fl := cond p [x] []
theorem sel_len (p : Bool) (x : Fl) : (sel p x).length ≤ 1 := by cases p <;> simp [sel]
/-- along one row -/
def row1 (f : Nat → List Fl) (k : Nat) : List Fl := (List.range k).flatMap f
theorem row1_zero (f : Nat → List Fl) : row1 f 0 = [] := rfl
theorem row1_succ (f : Nat → List Fl) (k : Nat) : row1 f (k + 1) = row1 f k ++ f k := by
  unfold row1; rw [List.range_succ, List.flatMap_append]; simp
theorem row1_len {f : Nat → List Fl} {c : Nat} (h : ∀ i, (f i).length ≤ c) : ∀ k, (row1 f k).length ≤ k * c := by
  intro k
  induction k with
  | zero => simp [row1_zero]
  | succ k ih => rw [row1_succ, List.length_append, Nat.succ_mul]; have := h k; omega
theorem row1_congr {f g : Nat → List Fl} : ∀ k, (∀ i, i < k → f i = g i) → row1 f k = row1 g k := by
  intro k
  induction k with
  | zero => intro _; rfl
  | succ k ih => intro h; rw [row1_succ, row1_succ, ih fun i hi => h i (by omega), h k (by omega)]
/-- from 'i' on, so many -/
def rowI (f : Nat → List Fl) (i k : Nat) : List Fl := row1 (fun j => f (i + j)) k
namespace Vw
variable (w : Vw)
def f2 : List Fl := row1 (fun v => sel (w.b2 v) (2, (v : Int), 0)) w.n
def f3 (k : Nat) : List Fl := row1 (fun e => sel (w.b3 e) (3, (e : Int), 0)) k
def r4 (u k : Nat) : List Fl := rowI (fun v => sel (w.b4 u v) (4, (u : Int), (v : Int))) (u + 1) k
def f4 (k : Nat) : List Fl := row1 (fun u => w.r4 u (w.n - (u + 1))) k
def r5 (e k : Nat) : List Fl := row1 (fun v => sel (w.b5 e v) (5, (e : Int), (v : Int))) k
def f5 (k : Nat) : List Fl := row1 (fun e => w.r5 e w.n) k
def r6 (e k : Nat) : List Fl := rowI (fun f => sel (w.b6 e f) (6, (e : Int), (f : Int))) (e + 1) k
def f6 (k : Nat) : List Fl := row1 (fun e => w.r6 e (w.m - (e + 1))) k
def all : List Fl := cond w.f2.isEmpty (w.f3 w.m ++ w.f4 w.n ++ w.f5 w.m ++ w.f6 w.m) w.f2
end Vw
end Go.Eng
