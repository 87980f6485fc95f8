/-
  The plain arithmetic: what the functions of package field answer, and that it is arithmetic modulo 31.
-/
import Derived.Below
namespace Go.Proofs.Ytpjlngkndofjfaa

/-- What the answer of Add is. -/
def addV (a b : Int) : Int := (a + b) % 31
def mulV (a b : Int) : Int := a * b % 31

theorem mul_bd {a b : Int} (h0 : 0 ≤ a) (h1 : a < 31) (h2 : 0 ≤ b) (h3 : b < 31) : 0 ≤ a * b ∧ a * b ≤ 900 := by
  have e1 : a * b ≤ 30 * b := Int.mul_le_mul_of_nonneg_right (by omega) h2
  exact ⟨Int.mul_nonneg h0 h2, by omega⟩

/-- n times multiplied by b. -/
def powV (b : Int) : Nat → Int → Int
  | 0, a => a
  | n + 1, a => powV b n (a * b % 31)
def divV (a b : Int) : Int := powV b 29 a

theorem powV_step (b : Int) (n : Nat) : ∀ a, powV b (n + 1) a = powV b n a * b % 31 := by
  induction n with
  | zero => intro a; rfl
  | succ n ih => intro a; exact ih _
theorem powV_bd {b : Int} (n : Nat) : ∀ a, 0 ≤ a → a < 31 → 0 ≤ powV b n a ∧ powV b n a < 31 := by
  induction n with
  | zero => intro a h0 h1; exact ⟨h0, h1⟩
  | succ n ih => intro a _ _; exact ih _ (by omega) (by omega)

theorem tmod_lo (k n : Int) (h : k < 0) (hn : 1 ≤ n) : -n < k.tmod n ∧ k.tmod n ≤ 0 ∧ (k.tmod n < 0 → k.tmod n + n = k % n) ∧ (0 ≤ k.tmod n → k.tmod n = k % n) := by
  have e := Int.tmod_eq_emod (a := k) (b := n)
  have h0 := Int.emod_nonneg k (show n ≠ 0 by omega)
  have h1 := Int.emod_lt_of_pos k (show 0 < n by omega)
  by_cases hd : n ∣ k
  · have hz := Int.emod_eq_zero_of_dvd hd
    rw [if_pos (Or.inr hd)] at e
    simp only [hz] at e h0 h1 ⊢
    omega
  · have hz : k % n ≠ 0 := fun hz => hd (Int.dvd_of_emod_eq_zero hz)
    rw [if_neg (by intro hh; rcases hh with hh | hh; omega; exact hd hh)] at e
    omega

def inB (n a b : Int) : Bool := decide (a ≤ n ∧ n ≤ b)

def isNum (a : Int) : Bool := inB a 0 30
theorem isNum_true {a : Int} (h0 : 0 ≤ a) (h1 : a < 31) : isNum a = true := by simp [isNum, inB]; omega
theorem isNum_false {a : Int} (h : a < 0 ∨ 31 ≤ a) : isNum a = false := by simp [isNum, inB]; omega

/-- The least c, from k on, of which c times b is a: with n tries. -/
def quoFrom (a b : Int) : Nat → Nat → Int
  | _, 0 => 0
  | k, n + 1 => if ((k : Int) * b % 31 == a) = true then (k : Int) else quoFrom a b (k + 1) n
def quoV (a b : Int) : Int := quoFrom a b 0 31


/-- What Div answers is what the reference finds by trying, and times b it is a again: each of the pairs, by reckoning. -/
theorem div_all : ∀ a b : Fin 31, (b.val ≠ 0 → divV a.val b.val = quoV a.val b.val ∧ divV a.val b.val * b.val % 31 = a.val) := by decide +kernel
theorem div_facts {a b : Int} (h0 : 0 ≤ a) (h1 : a < 31) (h2 : 0 < b) (h3 : b < 31) : divV a b = quoV a b ∧ divV a b * b % 31 = a := by
  have h := div_all ⟨a.toNat, by omega⟩ ⟨b.toNat, by omega⟩ (by simp; omega)
  simpa [Int.toNat_of_nonneg h0, Int.toNat_of_nonneg (Int.le_of_lt h2)] using h
theorem divV_bd {a b : Int} (h0 : 0 ≤ a) (h1 : a < 31) : 0 ≤ divV a b ∧ divV a b < 31 := powV_bd 29 a h0 h1

/-- A number brought within bounds. -/
def modV (k n : Int) : Int := k % n
theorem modV_bd (k : Int) {n : Int} (h : 1 ≤ n) : 0 ≤ modV k n ∧ modV k n < n := ⟨Int.emod_nonneg _ (by omega), Int.emod_lt_of_pos _ (by omega)⟩

theorem addV_bd (a b : Int) : 0 ≤ addV a b ∧ addV a b < 31 := by unfold addV; omega
theorem mulV_bd (a b : Int) : 0 ≤ mulV a b ∧ mulV a b < 31 := by unfold mulV; omega
theorem addV_comm (a b : Int) : addV a b = addV b a := by unfold addV; rw [Int.add_comm]
theorem mulV_comm (a b : Int) : mulV a b = mulV b a := by unfold mulV; rw [Int.mul_comm]
theorem addV_assoc (a b c : Int) : addV (addV a b) c = addV a (addV b c) := by unfold addV; omega
theorem emod_mul_l (x c : Int) : x % 31 * c % 31 = x * c % 31 := by rw [Int.mul_emod, Int.emod_emod, ← Int.mul_emod]
theorem emod_mul_r (x c : Int) : c * (x % 31) % 31 = c * x % 31 := by rw [Int.mul_emod, Int.emod_emod, ← Int.mul_emod]
theorem mulV_assoc (a b c : Int) : mulV (mulV a b) c = mulV a (mulV b c) := by
  unfold mulV; rw [emod_mul_l, emod_mul_r, Int.mul_assoc]
theorem mulV_add (a b c : Int) : mulV a (addV b c) = addV (mulV a b) (mulV a c) := by
  unfold mulV addV; rw [emod_mul_r, Int.mul_add]; omega
theorem addV_zero {a : Int} (h0 : 0 ≤ a) (h1 : a < 31) : addV a 0 = a := by unfold addV; omega
theorem mulV_one {a : Int} (h0 : 0 ≤ a) (h1 : a < 31) : mulV a 1 = a := by unfold mulV; omega
theorem mulV_zero_all : ∀ a b : Fin 31, (mulV a.val b.val = 0 ↔ a.val = 0 ∨ b.val = 0) := by decide +kernel
theorem mulV_zero {a b : Int} (h0 : 0 ≤ a) (h1 : a < 31) (h2 : 0 ≤ b) (h3 : b < 31) : mulV a b = 0 ↔ a = 0 ∨ b = 0 := by
  have h := mulV_zero_all ⟨a.toNat, by omega⟩ ⟨b.toNat, by omega⟩
  simp only [Int.toNat_of_nonneg h0, Int.toNat_of_nonneg h2] at h
  rw [h]; omega
theorem mulV_divV {a b : Int} (h0 : 0 ≤ a) (h1 : a < 31) (h2 : 0 < b) (h3 : b < 31) : mulV (divV a b) b = a := (div_facts h0 h1 h2 h3).2
theorem mulV_cancel {a b c : Int} (h0 : 0 ≤ a) (h1 : a < 31) (h2 : 0 ≤ b) (h3 : b < 31) (h4 : 0 < c) (h5 : c < 31) (h : mulV a c = mulV b c) : a = b := by
  have e : ∀ x, 0 ≤ x → x < 31 → mulV (mulV x c) (divV 1 c) = x := fun x hx hx' => by
    rw [mulV_assoc, mulV_comm c, mulV_divV (by omega) (by omega) h4 h5, mulV_one hx hx']
  rw [← e a h0 h1, h, e b h2 h3]

theorem mulV_pos {a b : Int} (h0 : 0 < a) (h1 : a < 31) (h2 : 0 < b) (h3 : b < 31) : 0 < mulV a b := by
  have h := mulV_zero (Int.le_of_lt h0) h1 (Int.le_of_lt h2) h3
  have hb := mulV_bd a b
  omega
theorem mulV_zero_l (b : Int) : mulV 0 b = 0 := by simp [mulV]
theorem divV_pos {a b : Int} (h0 : 0 < a) (h1 : a < 31) (h2 : 0 < b) (h3 : b < 31) : 0 < divV a b := by
  have hb := divV_bd (b := b) (Int.le_of_lt h0) h1
  have he := mulV_divV (Int.le_of_lt h0) h1 h2 h3
  rcases Int.lt_or_le 0 (divV a b) with h | h
  · exact h
  · have : divV a b = 0 := by omega
    rw [this, mulV_zero_l] at he
    omega
/-- It is the quotient if it is it, times. -/
theorem divV_of {a b q : Int} (h0 : 0 ≤ a) (h1 : a < 31) (h2 : 0 < b) (h3 : b < 31) (h4 : 0 ≤ q) (h5 : q < 31) (h : mulV q b = a) : divV a b = q := by
  have hb := divV_bd (b := b) h0 h1
  exact mulV_cancel hb.1 hb.2 h4 h5 h2 h3 (by rw [mulV_divV h0 h1 h2 h3, h])
theorem div_div {a b c : Int} (h0 : 0 ≤ a) (h1 : a < 31) (h2 : 0 < b) (h3 : b < 31) (h4 : 0 < c) (h5 : c < 31) : divV (divV a b) c = divV a (mulV b c) := by
  have hb := divV_bd (b := b) h0 h1
  have hbb := divV_bd (b := c) hb.1 hb.2
  refine (divV_of h0 h1 (mulV_pos h2 h3 h4 h5) (mulV_bd b c).2 hbb.1 hbb.2 ?_).symm
  rw [mulV_comm b c, ← mulV_assoc, mulV_divV hb.1 hb.2 h4 h5, mulV_divV h0 h1 h2 h3]
theorem div_quo {a b c : Int} (h0 : 0 ≤ a) (h1 : a < 31) (h2 : 0 < b) (h3 : b < 31) (h4 : 0 < c) (h5 : c < 31) : divV a (divV b c) = divV (mulV a c) b := by
  have hq := divV_pos h2 h3 h4 h5
  have hq1 := divV_bd (a := b) (b := c) (by omega) h3
  have hm := mulV_bd a c
  have hr := divV_bd (a := mulV a c) (b := b) hm.1 hm.2
  refine divV_of h0 h1 hq hq1.2 hr.1 hr.2 ?_
  refine mulV_cancel (mulV_bd _ _).1 (mulV_bd _ _).2 h0 h1 h4 h5 ?_
  rw [mulV_assoc, mulV_divV (by omega) h3 h4 h5, mulV_divV hm.1 hm.2 h2 h3]

/-- What Check of a number answers. -/
def numOk (a : Int) : Bool := decide (0 ≤ a ∧ a < 31)
theorem numOk_iff {a : Int} : numOk a = true ↔ 0 ≤ a ∧ a < 31 := by simp [numOk]
theorem numOk_no {a : Int} : numOk a = false ↔ a < 0 ∨ 31 ≤ a := by simp [numOk]; omega
theorem isNum_eq (a : Int) : isNum a = numOk a := decide_eq_decide.2 (by omega)

/-- The points, one by one, 'seen' being those before. -/
def ptsFrom : List Int → List Int → List Int → Int
  | a :: x, b :: y, seen => if numOk a && numOk b then (if a ∈ seen then 5 else ptsFrom x y (seen ++ [a])) else 2
  | _, _, _ => 0
def ptsV (x y : List Int) : Int :=
  if x.length ≠ y.length then 3 else if x.length = 0 ∨ 8 < x.length then 1 else ptsFrom x y []

/-- What Div answers of any two numbers, the second one 0 or not. -/
def divT (a b : Int) : Int := if b = 0 then 0 else divV a b
def divE (b : Int) : Int := if b = 0 then 2 else 0
theorem divT_bd {a : Int} (b : Int) (h0 : 0 ≤ a) (h1 : a < 31) : 0 ≤ divT a b ∧ divT a b < 31 := by
  unfold divT; split
  · omega
  · exact divV_bd h0 h1

/-- The factors of the other points (the list from place j on), one after the other. -/
def termFrom (i : Nat) (a p : Int) : List Int → Nat → Int → Int
  | [], _, t => t
  | b :: l, j, t => termFrom i a p l (j + 1) (if j = i then t else divT (t * (p + 31 - b) % 31) ((a + 31 - b) % 31))
/-- The sum over the points (from place i on). -/
def atFrom (full : List Int) (p : Int) : List Int → List Int → Nat → Int → Int
  | a :: x, y :: ys, i, s => atFrom full p x ys (i + 1) ((s + termFrom i a p full 0 y) % 31)
  | _, _, _, s => s
def atV (x y : List Int) (p : Int) : Int := atFrom x p x y 0 0

theorem termFrom_bd (i : Nat) (a p : Int) : ∀ (l : List Int) (j : Nat) (t : Int), 0 ≤ t → t < 31 → 0 ≤ termFrom i a p l j t ∧ termFrom i a p l j t < 31
  | [], _, t, h0, h1 => ⟨h0, h1⟩
  | b :: l, j, t, h0, h1 => by
    unfold termFrom
    split
    · exact termFrom_bd i a p l (j + 1) t h0 h1
    · have h := divT_bd (a := t * (p + 31 - b) % 31) ((a + 31 - b) % 31) (by omega) (by omega)
      exact termFrom_bd i a p l (j + 1) _ h.1 h.2
theorem atFrom_bd (full : List Int) (p : Int) : ∀ (x y : List Int) (i : Nat) (s : Int), 0 ≤ s → s < 31 → 0 ≤ atFrom full p x y i s ∧ atFrom full p x y i s < 31
  | [], _, _, s, h0, h1 => by simp [atFrom, h0, h1]
  | _ :: _, [], _, s, h0, h1 => by simp [atFrom, h0, h1]
  | a :: x, y :: ys, i, s, h0, h1 => by
    unfold atFrom
    exact atFrom_bd full p x ys (i + 1) _ (by omega) (by omega)
theorem atV_bd (x y : List Int) (p : Int) : 0 ≤ atV x y p ∧ atV x y p < 31 := atFrom_bd _ _ _ _ _ _ (by omega) (by omega)

/-- What right points are. -/
structure PtsOk (x y : List Int) : Prop where
  len : x.length = y.length
  pos : 1 ≤ x.length
  top : x.length ≤ 8
  numx : ∀ a ∈ x, 0 ≤ a ∧ a < 31
  numy : ∀ a ∈ y, 0 ≤ a ∧ a < 31
  nodup : x.Nodup

theorem ptsFrom_ok : ∀ (x y seen : List Int), x.length = y.length → (ptsFrom x y seen = 0 ↔ (∀ a ∈ x, 0 ≤ a ∧ a < 31) ∧ (∀ a ∈ y, 0 ≤ a ∧ a < 31) ∧ x.Nodup ∧ ∀ a ∈ x, a ∉ seen)
  | [], [], seen, _ => by simp [ptsFrom]
  | [], _ :: _, _, h => by simp at h
  | _ :: _, [], _, h => by simp at h
  | a :: x, b :: y, seen, h => by
    have ih := ptsFrom_ok x y (seen ++ [a]) (by simpa using h)
    unfold ptsFrom
    by_cases ha : numOk a = true
    · by_cases hb : numOk b = true
      · rw [ha, hb]
        have ha' := numOk_iff.1 ha
        have hb' := numOk_iff.1 hb
        by_cases hs : a ∈ seen
        · simp [hs]
        · simp only [Bool.and_self, if_true, hs, if_false, ih]
          simp only [List.mem_cons, List.mem_append, List.nodup_cons, forall_eq_or_imp, not_or]
          constructor
          · rintro ⟨h1, h2, h3, h4⟩
            exact ⟨⟨ha', h1⟩, ⟨hb', h2⟩, ⟨fun hm => (h4 a hm).2.1 rfl, h3⟩, hs, fun c hc => (h4 c hc).1⟩
          · rintro ⟨⟨_, h1⟩, ⟨_, h2⟩, ⟨h3, h4⟩, _, h5⟩
            exact ⟨h1, h2, h4, fun c hc => ⟨h5 c hc, fun e => h3 (e ▸ hc), by simp⟩⟩
      · simp only [Bool.not_eq_true] at hb
        rw [ha, hb]
        have hb' := numOk_no.1 hb
        simp only [Bool.and_false, Bool.false_eq_true, if_false]
        constructor
        · intro h; simp at h
        · rintro ⟨_, h2, _⟩
          have := h2 b (by simp)
          omega
    · simp only [Bool.not_eq_true] at ha
      rw [ha]
      have ha' := numOk_no.1 ha
      simp only [Bool.false_and, Bool.false_eq_true, if_false]
      constructor
      · intro h; simp at h
      · rintro ⟨h1, _⟩
        have := h1 a (by simp)
        omega
theorem ptsV_ok {x y : List Int} : ptsV x y = 0 ↔ PtsOk x y := by
  unfold ptsV
  by_cases h1 : x.length = y.length
  · rw [if_neg (by simpa using h1)]
    by_cases h2 : x.length = 0 ∨ 8 < x.length
    · rw [if_pos h2]
      constructor
      · intro h; simp at h
      · rintro ⟨_, h3, h4, _⟩; omega
    · rw [if_neg h2, ptsFrom_ok x y [] h1]
      constructor
      · rintro ⟨a, b, c, _⟩; exact ⟨h1, by omega, by omega, a, b, c⟩
      · rintro ⟨_, _, _, a, b, c⟩; exact ⟨a, b, c, by simp⟩
  · rw [if_pos h1]
    constructor
    · intro h; simp at h
    · rintro ⟨h, _⟩; exact absurd h h1

/-! ### The reference's curve: by differences -/
def lessV (a b : Int) : Int := (a + 31 - b) % 31
theorem lessV_bd (a b : Int) : 0 ≤ lessV a b ∧ lessV a b < 31 := by unfold lessV; omega
theorem quoFrom_bd (a b : Int) : ∀ (n k : Nat), k + n ≤ 31 → 0 ≤ quoFrom a b k n ∧ quoFrom a b k n < 31
  | 0, k, _ => by simp [quoFrom]
  | n + 1, k, h => by
    unfold quoFrom
    split
    · omega
    · exact quoFrom_bd a b n (k + 1) (by omega)
theorem quoV_bd (a b : Int) : 0 ≤ quoV a b ∧ quoV a b < 31 := quoFrom_bd a b 31 0 (by omega)

/-- The inner loop: m places are left, the last of them k + m - 1. -/
def ddIn (x : List Int) (k : Nat) : Nat → List Int → List Int
  | 0, c => c
  | m + 1, c => ddIn x k m (c.set (k + m) (quoV (lessV (c.getD (k + m) 0) (c.getD (k + m - 1) 0)) (lessV (x.getD (k + m) 0) (x.getD m 0))))
/-- The outer loop, from k on, r rounds. -/
def ddOut (x : List Int) : Nat → Nat → List Int → List Int
  | 0, _, c => c
  | r + 1, k, c => ddOut x r (k + 1) (ddIn x k (x.length - k) c)
def hoFrom (x c : List Int) (p : Int) : Nat → Int → Int
  | 0, v => v
  | m + 1, v => hoFrom x c p m ((v * lessV p (x.getD m 0) + c.getD m 0) % 31)
def valV (x y : List Int) (p : Int) : Int := hoFrom x (ddOut x (x.length - 1) 1 y) p x.length 0

theorem ddIn_len (x : List Int) (k : Nat) : ∀ (m : Nat) (c : List Int), (ddIn x k m c).length = c.length
  | 0, _ => rfl
  | m + 1, c => by unfold ddIn; rw [ddIn_len x k m]; simp
theorem ddOut_len (x : List Int) : ∀ (r k : Nat) (c : List Int), (ddOut x r k c).length = c.length
  | 0, _, _ => rfl
  | r + 1, k, c => by unfold ddOut; rw [ddOut_len x r, ddIn_len]
def AllNum (c : List Int) : Prop := ∀ a ∈ c, 0 ≤ a ∧ a < 31
theorem AllNum.set {c : List Int} (h : AllNum c) (i : Nat) {z : Int} (h0 : 0 ≤ z) (h1 : z < 31) : AllNum (c.set i z) := by
  intro a ha
  rcases List.mem_or_eq_of_mem_set ha with h' | rfl
  · exact h a h'
  · exact ⟨h0, h1⟩
theorem AllNum.getD {c : List Int} (h : AllNum c) (i : Nat) : 0 ≤ c.getD i 0 ∧ c.getD i 0 < 31 := by
  rw [List.getD_eq_getElem?_getD]
  cases hc : c[i]? with
  | none => simp
  | some z => exact h z (List.mem_of_getElem? hc)
theorem AllNum.ddIn {x : List Int} {k : Nat} : ∀ (m : Nat) {c : List Int}, AllNum c → AllNum (ddIn x k m c)
  | 0, _, h => h
  | m + 1, c, h => by
    have hq := quoV_bd (lessV (c.getD (k + m) 0) (c.getD (k + m - 1) 0)) (lessV (x.getD (k + m) 0) (x.getD m 0))
    exact AllNum.ddIn m (h.set _ hq.1 hq.2)
theorem AllNum.ddOut {x : List Int} : ∀ (r k : Nat) {c : List Int}, AllNum c → AllNum (ddOut x r k c)
  | 0, _, _, h => h
  | r + 1, k, _, h => AllNum.ddOut r (k + 1) (AllNum.ddIn _ h)

end Go.Proofs.Ytpjlngkndofjfaa
