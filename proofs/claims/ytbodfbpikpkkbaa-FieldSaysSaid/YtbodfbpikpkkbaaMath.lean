/-
  The plain arithmetic: what the functions of package field answer, and that it is arithmetic modulo 31.
-/
import Derived.Below
namespace Go.Proofs.Ytbodfbpikpkkbaa

/-- What the answer of Add is. -/
def addV (a b : Int) : Int := (a + b) % 31
def mulV (a b : Int) : Int := a * b % 31

theorem mul_bd {a b : Int} (h0 : 0 ≤ a) (h1 : a < 31) (h2 : 0 ≤ b) (h3 : b < 31) : 0 ≤ a * b ∧ a * b ≤ 900 := by
  have e1 : a * b ≤ 30 * b := Int.mul_le_mul_of_nonneg_right (by omega) h2
  exact ⟨Int.mul_nonneg h0 h2, by omega⟩

/-- n times multiplied by b. -/
def powV (b : Int) : Nat → Int → Int
  | 0, a => a
  | n + 1, a => powV b n (a * b % 31)
def divV (a b : Int) : Int := powV b 29 a

theorem powV_step (b : Int) (n : Nat) : ∀ a, powV b (n + 1) a = powV b n a * b % 31 := by
  induction n with
  | zero => intro a; rfl
  | succ n ih => intro a; exact ih _
theorem powV_bd {b : Int} (n : Nat) : ∀ a, 0 ≤ a → a < 31 → 0 ≤ powV b n a ∧ powV b n a < 31 := by
  induction n with
  | zero => intro a h0 h1; exact ⟨h0, h1⟩
  | succ n ih => intro a _ _; exact ih _ (by omega) (by omega)

theorem tmod_lo (k n : Int) (h : k < 0) (hn : 1 ≤ n) : -n < k.tmod n ∧ k.tmod n ≤ 0 ∧ (k.tmod n < 0 → k.tmod n + n = k % n) ∧ (0 ≤ k.tmod n → k.tmod n = k % n) := by
  have e := Int.tmod_eq_emod (a := k) (b := n)
  have h0 := Int.emod_nonneg k (show n ≠ 0 by omega)
  have h1 := Int.emod_lt_of_pos k (show 0 < n by omega)
  by_cases hd : n ∣ k
  · have hz := Int.emod_eq_zero_of_dvd hd
    rw [if_pos (Or.inr hd)] at e
    simp only [hz] at e h0 h1 ⊢
    omega
  · have hz : k % n ≠ 0 := fun hz => hd (Int.dvd_of_emod_eq_zero hz)
    rw [if_neg (by intro hh; rcases hh with hh | hh; omega; exact hd hh)] at e
    omega

def inB (n a b : Int) : Bool := decide (a ≤ n ∧ n ≤ b)

def isNum (a : Int) : Bool := inB a 0 30
theorem isNum_true {a : Int} (h0 : 0 ≤ a) (h1 : a < 31) : isNum a = true := by simp [isNum, inB]; omega
theorem isNum_false {a : Int} (h : a < 0 ∨ 31 ≤ a) : isNum a = false := by simp [isNum, inB]; omega

/-- The least c, from k on, of which c times b is a: with n tries. -/
def quoFrom (a b : Int) : Nat → Nat → Int
  | _, 0 => 0
  | k, n + 1 => if ((k : Int) * b % 31 == a) = true then (k : Int) else quoFrom a b (k + 1) n
def quoV (a b : Int) : Int := quoFrom a b 0 31


/-- What Div answers is what the reference finds by trying, and times b it is a again: each of the pairs, by reckoning. -/
theorem div_all : ∀ a b : Fin 31, (b.val ≠ 0 → divV a.val b.val = quoV a.val b.val ∧ divV a.val b.val * b.val % 31 = a.val) := by decide +kernel
theorem div_facts {a b : Int} (h0 : 0 ≤ a) (h1 : a < 31) (h2 : 0 < b) (h3 : b < 31) : divV a b = quoV a b ∧ divV a b * b % 31 = a := by
  have h := div_all ⟨a.toNat, by omega⟩ ⟨b.toNat, by omega⟩ (by simp; omega)
  simpa [Int.toNat_of_nonneg h0, Int.toNat_of_nonneg (Int.le_of_lt h2)] using h
theorem divV_bd {a b : Int} (h0 : 0 ≤ a) (h1 : a < 31) : 0 ≤ divV a b ∧ divV a b < 31 := powV_bd 29 a h0 h1

/-- What Check of a number answers. -/
def numOk (a : Int) : Bool := decide (0 ≤ a ∧ a < 31)
theorem numOk_iff {a : Int} : numOk a = true ↔ 0 ≤ a ∧ a < 31 := by simp [numOk]
theorem numOk_no {a : Int} : numOk a = false ↔ a < 0 ∨ 31 ≤ a := by simp [numOk]; omega
theorem isNum_eq (a : Int) : isNum a = numOk a := decide_eq_decide.2 (by omega)

/-- The points, one by one, 'seen' being those before. -/
def ptsFrom : List Int → List Int → List Int → Int
  | a :: x, b :: y, seen => if numOk a && numOk b then (if a ∈ seen then 5 else ptsFrom x y (seen ++ [a])) else 2
  | _, _, _ => 0
def ptsV (x y : List Int) : Int :=
  if x.length ≠ y.length then 3 else if x.length = 0 ∨ 8 < x.length then 1 else ptsFrom x y []

end Go.Proofs.Ytbodfbpikpkkbaa
