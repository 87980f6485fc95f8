/-
  Curves modulo 31: a curve of low degree is known by its points; the program's way of telling its value and the reference's way are one.
-/
import Derived.Test.YtnpdojjffbhalaaBase
namespace Go.Proofs.Ytnpdojjffbhalaa

abbrev F := Fin 31
def inv (a : F) : F := a ^ 29
theorem mul_inv : ∀ a : F, a ≠ 0 → a * inv a = 1 := by decide +kernel
theorem mul_zero_f (a b : F) (h : a * b = 0) : a = 0 ∨ b = 0 := by
  by_cases ha : a = 0
  · exact Or.inl ha
  · have hi := mul_inv a ha
    right
    have : b = (a * inv a) * b := by rw [hi]; grind
    rw [this]; grind

/-- The value of a polynomial. -/
def pv : List F → F → F
  | [], _ => 0
  | a :: c, x => a + x * pv c x
theorem factor (c : List F) (r : F) : ∀ a, ∃ q, q.length = c.length ∧ ∀ x, pv (a :: c) x = pv (a :: c) r + (x - r) * pv q x := by
  induction c with
  | nil => intro a; exact ⟨[], rfl, fun x => by simp only [pv]; grind⟩
  | cons b c ih =>
    intro a
    obtain ⟨q, hq, h⟩ := ih b
    refine ⟨pv (b :: c) r :: q, by simp [hq], fun x => ?_⟩
    have e := h x
    simp only [pv] at *
    grind
theorem roots : ∀ (xs : List F) (c : List F), xs.Nodup → c.length ≤ xs.length → (∀ x ∈ xs, pv c x = 0) → ∀ x, pv c x = 0
  | [], c, _, hl, _, x => by
    have : c = [] := List.eq_nil_of_length_eq_zero (by simpa using hl)
    rw [this]; rfl
  | r :: xs, [], _, _, _, x => rfl
  | r :: xs, a :: c, hn, hl, hz, x => by
    obtain ⟨q, hq, h⟩ := factor c r a
    have hr := hz r (by simp)
    have hn' := List.nodup_cons.1 hn
    have hq0 := roots xs q hn'.2 (by simp at hl; omega) (fun y hy => by
      have h1 := hz y (by simp [hy])
      rw [h y, hr] at h1
      have h2 : (y - r) * pv q y = 0 := by grind
      rcases mul_zero_f _ _ h2 with h3 | h3
      · exact absurd (show y = r by grind) (fun e => hn'.1 (e ▸ hy))
      · exact h3)
    rw [h x, hr, hq0 x]; grind

/-- A curve of a degree below n. -/
def Deg (n : Nat) (f : F → F) : Prop := ∃ c : List F, c.length ≤ n ∧ ∀ x, f x = pv c x
def padd : List F → List F → List F
  | [], d => d
  | c, [] => c
  | a :: c, b :: d => (a + b) :: padd c d
theorem padd_len : ∀ c d : List F, (padd c d).length = max c.length d.length
  | [], d => by simp [padd]
  | a :: c, [] => by simp [padd]
  | a :: c, b :: d => by simp [padd, padd_len c d]
theorem pv_padd : ∀ (c d : List F) (x : F), pv (padd c d) x = pv c x + pv d x
  | [], d, x => by simp only [padd, pv]; grind
  | a :: c, [], x => by simp only [padd, pv]; grind
  | a :: c, b :: d, x => by simp only [padd, pv, pv_padd c d x]; grind
theorem pv_smul (k : F) : ∀ (c : List F) (x : F), pv (c.map (k * ·)) x = k * pv c x
  | [], x => by simp only [List.map_nil, pv]; grind
  | a :: c, x => by simp only [List.map_cons, pv, pv_smul k c x]; grind
theorem Deg.mono {n m : Nat} {f : F → F} (h : Deg n f) (hm : n ≤ m) : Deg m f := let ⟨c, hc, e⟩ := h; ⟨c, Nat.le_trans hc hm, e⟩
theorem Deg.congr {n : Nat} {f g : F → F} (h : Deg n f) (e : ∀ x, g x = f x) : Deg n g := let ⟨c, hc, e'⟩ := h; ⟨c, hc, fun x => (e x).trans (e' x)⟩
theorem Deg.add {n : Nat} {f g : F → F} (h : Deg n f) (k : Deg n g) : Deg n (fun x => f x + g x) := by
  obtain ⟨c, hc, e⟩ := h
  obtain ⟨d, hd, e'⟩ := k
  exact ⟨padd c d, by rw [padd_len]; omega, fun x => by dsimp only; rw [pv_padd, e, e']⟩
theorem Deg.smul {n : Nat} {f : F → F} (k : F) (h : Deg n f) : Deg n (fun x => k * f x) := by
  obtain ⟨c, hc, e⟩ := h
  exact ⟨c.map (k * ·), by simpa using hc, fun x => by dsimp only; rw [pv_smul, e]⟩
theorem Deg.sub {n : Nat} {f g : F → F} (h : Deg n f) (k : Deg n g) : Deg n (fun x => f x - g x) :=
  (h.add (k.smul (-1))).congr fun x => by grind
theorem Deg.const (a : F) : Deg 1 (fun _ => a) := ⟨[a], by simp, fun x => by simp only [pv]; grind⟩
theorem Deg.zero (n : Nat) : Deg n (fun _ => 0) := ⟨[], by simp, fun x => rfl⟩
theorem Deg.lin {n : Nat} {f : F → F} (a : F) (h : Deg n f) : Deg (n + 1) (fun x => (x - a) * f x) := by
  obtain ⟨c, hc, e⟩ := h
  refine ⟨padd (0 :: c) (c.map ((-a) * ·)), by rw [padd_len]; simp; omega, fun x => ?_⟩
  dsimp only
  rw [pv_padd, pv_smul, e]
  simp only [pv]
  grind
/-- Curves of a degree below n that meet at n places are one. -/
theorem Deg.uniq {n : Nat} {f g : F → F} (h : Deg n f) (k : Deg n g) {xs : List F} (hn : xs.Nodup) (hl : n ≤ xs.length) (he : ∀ x ∈ xs, f x = g x) : ∀ x, f x = g x := by
  obtain ⟨c, hc, e⟩ := h.sub k
  intro x
  have := roots xs c hn (by omega) (fun y hy => by rw [← e y]; dsimp only; rw [he y hy]; grind) x
  rw [← e x] at this
  grind

/-- A curve whose number at the power n is a, and of no greater degree. -/
def Lead (n : Nat) (a : F) (f : F → F) : Prop := Deg n (fun x => f x - a * x ^ n)
theorem Lead.deg {n : Nat} {a : F} {f : F → F} (h : Lead n a f) : Deg (n + 1) f := by
  have hp : ∀ m : Nat, Deg (m + 1) (fun x => x ^ m) := by
    intro m
    induction m with
    | zero => exact (Deg.const 1).congr fun x => by grind
    | succ m ih => exact (ih.lin 0).congr fun x => by grind
  exact ((h.mono (Nat.le_succ n)).add ((hp n).smul a)).congr fun x => by grind
theorem Lead.of_deg {n : Nat} {f : F → F} (h : Deg n f) : Lead n 0 f := h.congr fun x => by grind
theorem Lead.const (a : F) : Lead 0 a (fun _ => a) := (Deg.zero 0).congr fun x => by grind
theorem Lead.add {n : Nat} {a b : F} {f g : F → F} (h : Lead n a f) (k : Lead n b g) : Lead n (a + b) (fun x => f x + g x) :=
  (Deg.add h k).congr fun x => by grind
theorem Lead.smul {n : Nat} {a : F} {f : F → F} (k : F) (h : Lead n a f) : Lead n (k * a) (fun x => k * f x) :=
  (Deg.smul k h).congr fun x => by grind
theorem Lead.lin {n : Nat} {a : F} {f : F → F} (r : F) (h : Lead n a f) : Lead (n + 1) a (fun x => (x - r) * f x) := by
  have h2 : Deg (n + 1) (fun x => (x - r) * (f x - a * x ^ n)) := Deg.lin r h
  have h3 : Deg (n + 1) (fun x => (-r * a) * x ^ n) := by
    have : Lead n 1 (fun x => x ^ n) := (Deg.zero n).congr fun x => by grind
    exact this.deg.smul (-r * a)
  exact (h2.add h3).congr fun x => by grind
theorem Lead.eq_deg {n : Nat} {a : F} {f g : F → F} (h : Lead n a f) (k : Lead n a g) : Deg n (fun x => f x - g x) :=
  (Deg.sub h k).congr fun x => by grind

/-! ### Differences -/
section
variable (x y : Nat → F)
def dd : Nat → Nat → F
  | i, 0 => y i
  | i, k + 1 => (dd i k - dd (i - 1) k) * inv (x i - x (i - 1 - k))
/-- The factors of the places from i - k on, k of them. -/
def prodF (i : Nat) : Nat → F → F
  | 0, _ => 1
  | k + 1, p => (p - x (i - 1 - k)) * prodF i k p
/-- The curve through the points i - k to i. -/
def newt : Nat → Nat → F → F
  | i, 0, _ => y i
  | i, k + 1, p => newt (i - 1) k p + dd x y i (k + 1) * prodF x i (k + 1) p
variable {x y}
theorem prodF_lead (i : Nat) : ∀ k, Lead k 1 (prodF x i k)
  | 0 => Lead.const 1
  | k + 1 => (prodF_lead i k).lin (x (i - 1 - k))
theorem prodF_zero (i : Nat) : ∀ (k j : Nat), j < k → prodF x i k (x (i - 1 - j)) = 0
  | 0, _, h => absurd h (Nat.not_lt_zero _)
  | k + 1, j, h => by
    simp only [prodF]
    rcases Nat.lt_succ_iff_lt_or_eq.1 h with h' | rfl
    · rw [prodF_zero i k j h']; grind
    · grind
theorem newt_good (n : Nat) (hinj : ∀ i j, i < n → j < n → x i = x j → i = j) : ∀ (k i : Nat), k ≤ i → i < n →
    Lead k (dd x y i k) (newt x y i k) ∧ ∀ j, j ≤ k → newt x y i k (x (i - j)) = y (i - j)
  | 0, i, _, _ => ⟨Lead.const _, fun j hj => by obtain rfl : j = 0 := by omega
                                                rfl⟩
  | k + 1, i, hk, hi => by
    obtain ⟨l1, p1⟩ := newt_good n hinj k i (by omega) hi
    obtain ⟨l2, p2⟩ := newt_good n hinj k (i - 1) (by omega) (by omega)
    have hd : x i - x (i - 1 - k) ≠ 0 := fun h => by
      have := hinj i (i - 1 - k) hi (by omega) (by grind)
      omega
    have hu := mul_inv _ hd
    obtain ⟨u, hu'⟩ : ∃ u, u = inv (x i - x (i - 1 - k)) := ⟨_, rfl⟩
    rw [← hu'] at hu
    -- the curve through all of them, out of the two through all but one
    let R : F → F := fun p => u * ((p - x (i - 1 - k)) * newt x y i k p + (-1) * ((p - x i) * newt x y (i - 1) k p))
    have lR : Lead (k + 1) (u * (dd x y i k + (-1) * dd x y (i - 1) k)) R := ((l1.lin _).add ((l2.lin _).smul (-1))).smul u
    have pR : ∀ j, j ≤ k + 1 → R (x (i - j)) = y (i - j) := by
      intro j hj
      show u * ((x (i - j) - x (i - 1 - k)) * newt x y i k (x (i - j)) + (-1) * ((x (i - j) - x i) * newt x y (i - 1) k (x (i - j)))) = y (i - j)
      rcases Nat.eq_zero_or_pos j with rfl | hj0
      · rw [p1 0 (by omega)]
        simp only [Nat.sub_zero]
        grind
      · have e2 := p2 (j - 1) (by omega)
        rw [show i - 1 - (j - 1) = i - j by omega] at e2
        rw [e2]
        by_cases hjk : j ≤ k
        · rw [p1 j hjk]
          grind
        · obtain rfl : j = k + 1 := by omega
          rw [show i - (k + 1) = i - 1 - k by omega]
          grind
    have lQ : Lead (k + 1) (dd x y i (k + 1)) (newt x y i (k + 1)) := by
      have h1 : Lead (k + 1) 0 (newt x y (i - 1) k) := Lead.of_deg l2.deg
      have h2 := h1.add ((prodF_lead (x := x) i (k + 1)).smul (dd x y i (k + 1)))
      exact Deg.congr h2 fun p => by
        show newt x y (i - 1) k p + dd x y i (k + 1) * prodF x i (k + 1) p - _ = _
        grind
    have hdd : u * (dd x y i k + (-1) * dd x y (i - 1) k) = dd x y i (k + 1) := by
      simp only [dd]
      rw [← hu']
      grind
    rw [hdd] at lR
    have hne : ∀ a b, a < n → b < n → a ≠ b → x a ≠ x b := fun a b ha hb hab e => hab (hinj a b ha hb e)
    have hsame : ∀ p, newt x y i (k + 1) p - R p = 0 := by
      have hd := lQ.eq_deg lR
      refine Deg.uniq hd (Deg.zero (k + 1)) (xs := (List.range (k + 1)).map fun j => x (i - 1 - j)) ?_ (by simp) ?_
      · refine List.pairwise_map.2 (List.Pairwise.imp_of_mem ?_ List.pairwise_lt_range)
        intro a b ha hb hab
        simp at ha hb
        exact hne _ _ (by omega) (by omega) (by omega)
      · intro z hz
        obtain ⟨j, hj, rfl⟩ := List.mem_map.1 hz
        simp at hj
        have e1 := pR (j + 1) (by omega)
        rw [show i - (j + 1) = i - 1 - j by omega] at e1
        have e2 := p2 j (by omega)
        rw [e1]
        show newt x y (i - 1) k (x (i - 1 - j)) + dd x y i (k + 1) * prodF x i (k + 1) (x (i - 1 - j)) - _ = _
        rw [prodF_zero i (k + 1) j (by omega), e2]
        grind
    refine ⟨lQ, fun j hj => ?_⟩
    have h1 := hsame (x (i - j))
    rw [pR j hj] at h1
    grind
end
end Go.Proofs.Ytnpdojjffbhalaa
