/-
  The program's way of telling a curve's value and the reference's way, as curves modulo 31: both go through the points, so they are one.
-/
import Derived.Test.YtnpdojjffbhalaaPoly
namespace Go.Proofs.Ytnpdojjffbhalaa

def toF (x : Int) : F := ⟨(x % 31).toNat, by omega⟩
theorem toF_add (a b : Int) : toF (a + b) = toF a + toF b := by
  apply Fin.ext
  simp only [toF, Fin.val_add]
  omega
theorem toF_mul (a b : Int) : toF (a * b) = toF a * toF b := by
  apply Fin.ext
  simp only [toF, Fin.val_mul]
  have ha := Int.emod_nonneg a (show (31 : Int) ≠ 0 by omega)
  have hb := Int.emod_nonneg b (show (31 : Int) ≠ 0 by omega)
  rw [Int.mul_emod]
  generalize a % 31 = x at *
  generalize b % 31 = z at *
  obtain ⟨m, rfl⟩ := Int.eq_ofNat_of_zero_le ha
  obtain ⟨n, rfl⟩ := Int.eq_ofNat_of_zero_le hb
  simp only [Int.toNat_natCast]
  show ((m * n : Nat) % 31 : Int).toNat = m * n % 31
  generalize m * n = q
  omega
theorem toF_emod (a : Int) : toF (a % 31) = toF a := by apply Fin.ext; simp only [toF]; omega
theorem toF_zero : toF 0 = 0 := by decide
theorem toF_31 : toF 31 = 0 := by decide
theorem toF_inj {a b : Int} (h0 : 0 ≤ a) (h1 : a < 31) (h2 : 0 ≤ b) (h3 : b < 31) (h : toF a = toF b) : a = b := by
  have := congrArg Fin.val h
  simp only [toF] at this
  omega
theorem toF_less (p b : Int) : toF (p + 31 - b) = toF p - toF b := by
  have h := toF_add (p + 31 - b) b
  rw [show p + 31 - b + b = p + 31 by omega, toF_add, toF_31] at h
  grind
theorem toF_lessV (p b : Int) : toF (lessV p b) = toF p - toF b := by unfold lessV; rw [toF_emod, toF_less]
theorem toF_val (z : F) : toF (z.val : Int) = z := by apply Fin.ext; simp only [toF]; omega
theorem toF_ne {a b : Int} (h0 : 0 ≤ a) (h1 : a < 31) (h2 : 0 ≤ b) (h3 : b < 31) (h : a ≠ b) : toF a - toF b ≠ 0 := fun e => h (toF_inj h0 h1 h2 h3 (by grind))

theorem toF_divV {a b : Int} (h0 : 0 ≤ a) (h1 : a < 31) (h2 : 0 < b) (h3 : b < 31) : toF (divV a b) = toF a * inv (toF b) := by
  have e := (div_facts h0 h1 h2 h3).2
  have hb : toF b ≠ 0 := fun e => by
    have := toF_inj (Int.le_of_lt h2) h3 (show (0 : Int) ≤ 0 by omega) (by omega) (by rw [e, toF_zero])
    omega
  have hi := mul_inv _ hb
  have h : toF (divV a b * b % 31) = toF a := by rw [e]
  rw [toF_emod, toF_mul] at h
  rw [← h]
  grind
theorem inv_zero : inv 0 = 0 := by decide
theorem toF_divT {a b : Int} (h0 : 0 ≤ a) (h1 : a < 31) (h2 : 0 ≤ b) (h3 : b < 31) : toF (divT a b) = toF a * inv (toF b) := by
  unfold divT
  split
  · rename_i h; subst h; rw [toF_zero, inv_zero]; grind
  · exact toF_divV h0 h1 (by omega) h3
theorem toF_quoV {a b : Int} (h0 : 0 ≤ a) (h1 : a < 31) (h2 : 0 < b) (h3 : b < 31) : toF (quoV a b) = toF a * inv (toF b) := by
  rw [← (div_facts h0 h1 h2 h3).1, toF_divV h0 h1 h2 h3]

/-! ### The program's way -/
def DegI (n : Nat) (f : Int → Int) : Prop := ∃ g : F → F, Deg n g ∧ ∀ p, toF (f p) = g (toF p)

def cnt (i : Nat) : List Int → Nat → Nat
  | [], _ => 0
  | _ :: l, j => (if j = i then 0 else 1) + cnt i l (j + 1)
theorem cnt_past (i : Nat) : ∀ (l : List Int) (j : Nat), i < j → cnt i l j = l.length
  | [], _, _ => rfl
  | _ :: l, j, h => by simp only [cnt]; rw [if_neg (by omega), cnt_past i l (j + 1) (by omega)]; simp; omega
theorem cnt_eq (i : Nat) : ∀ (l : List Int) (j : Nat), j ≤ i → i < j + l.length → cnt i l j = l.length - 1
  | [], _, _, h => by simp at h; omega
  | _ :: l, j, h, h' => by
    simp only [cnt]
    by_cases e : j = i
    · rw [if_pos e, cnt_past i l (j + 1) (by omega)]; simp
    · rw [if_neg e, cnt_eq i l (j + 1) (by omega) (by simp at h'; omega)]; simp at h' ⊢; omega
theorem term_deg (i : Nat) (a : Int) : ∀ (l : List Int) (j n : Nat) (t : Int → Int), DegI n t → DegI (n + cnt i l j) (fun p => termFrom i a p l j (t p))
  | [], _, _, _, h => h
  | b :: l, j, n, t, h => by
    by_cases e : j = i
    · have := term_deg i a l (j + 1) n t h
      simpa [cnt, termFrom, e] using this
    · have h2 : DegI (n + 1) (fun p => divT (t p * (p + 31 - b) % 31) ((a + 31 - b) % 31)) := by
        obtain ⟨g, hg, eg⟩ := h
        refine ⟨fun x => inv (toF ((a + 31 - b) % 31)) * ((x - toF b) * g x), (hg.lin _).smul _, fun p => ?_⟩
        dsimp only
        rw [toF_divT (by omega) (by omega) (by omega) (by omega), toF_emod, toF_mul, toF_less, eg]
        grind
      have := term_deg i a l (j + 1) (n + 1) _ h2
      simp only [cnt, termFrom, e, if_false]
      rw [show n + (1 + cnt i l (j + 1)) = n + 1 + cnt i l (j + 1) by omega]
      exact this
theorem at_deg (full : List Int) : ∀ (x y : List Int) (i : Nat) (s : Int → Int), i + x.length ≤ full.length → 1 ≤ full.length → DegI full.length s → DegI full.length (fun p => atFrom full p x y i (s p))
  | [], _, _, _, _, _, h => h
  | _ :: _, [], _, _, _, _, h => h
  | a :: x, y :: ys, i, s, hi, hl, h => by
    simp only [atFrom]
    have ht := term_deg i a full 0 1 (fun _ => y) ⟨fun _ => toF y, Deg.const _, fun _ => rfl⟩
    rw [cnt_eq i full 0 (by omega) (by simp at hi; omega)] at ht
    refine at_deg full x ys (i + 1) (fun p => (s p + termFrom i a p full 0 y) % 31) (by simp at hi; omega) hl ?_
    obtain ⟨g, hg, eg⟩ := h
    obtain ⟨k, hk, ek⟩ := ht
    refine ⟨fun z => g z + k z, hg.add (hk.mono (by omega)), fun p => ?_⟩
    dsimp only
    rw [toF_emod, toF_add, eg, ek]
theorem atV_deg {x y : List Int} (h : 1 ≤ x.length) : DegI x.length (atV x y) := at_deg x x y 0 (fun _ => 0) (by omega) h ⟨fun _ => 0, Deg.zero _, fun _ => toF_zero⟩

theorem divT_zero (d : Int) : divT 0 d = 0 := by
  unfold divT
  split
  · rfl
  · have : ∀ n, powV d n 0 = 0 := by
      intro n
      induction n with
      | zero => rfl
      | succ n ih => simp [powV, ih]
    exact this 29
theorem term_zero (i : Nat) (a p : Int) : ∀ (l : List Int) (j : Nat), termFrom i a p l j 0 = 0
  | [], _ => rfl
  | b :: l, j => by
    simp only [termFrom]
    split
    · exact term_zero i a p l (j + 1)
    · rw [Int.zero_mul, Int.zero_emod, divT_zero]; exact term_zero i a p l (j + 1)
theorem term_other (i : Nat) (a p : Int) : ∀ (l : List Int) (j k : Nat) (t : Int), l[k]? = some p → j + k ≠ i → termFrom i a p l j t = 0
  | [], _, _, _, h, _ => by simp at h
  | b :: l, j, 0, t, h, hne => by
    simp only [List.getElem?_cons_zero, Option.some.injEq] at h
    subst h
    simp only [termFrom]
    rw [if_neg (by omega), show b + 31 - b = 31 by omega, show t * 31 % 31 = 0 by omega, divT_zero]
    exact term_zero i a b l (j + 1)
  | b :: l, j, k + 1, t, h, hne => by
    simp only [List.getElem?_cons_succ] at h
    simp only [termFrom]
    exact term_other i a p l (j + 1) k _ h (by omega)
theorem term_self (i : Nat) (a : Int) (ha : 0 ≤ a ∧ a < 31) : ∀ (l : List Int) (j : Nat) (t : Int), 0 ≤ t → t < 31 → (∀ b ∈ l, 0 ≤ b ∧ b < 31) → (∀ k b, l[k]? = some b → j + k ≠ i → b ≠ a) → termFrom i a a l j t = t
  | [], _, _, _, _, _, _ => rfl
  | b :: l, j, t, h0, h1, hr, hd => by
    have hd' : ∀ k c, l[k]? = some c → j + 1 + k ≠ i → c ≠ a := fun k c hc hne => hd (k + 1) c (by simpa using hc) (by omega)
    have hr' : ∀ c ∈ l, 0 ≤ c ∧ c < 31 := fun c hc => hr c (by simp [hc])
    simp only [termFrom]
    split
    · exact term_self i a ha l (j + 1) t h0 h1 hr' hd'
    · rename_i hne
      have hb := hr b (by simp)
      have hba := hd 0 b (by simp) (by omega)
      have e : divT (t * (a + 31 - b) % 31) ((a + 31 - b) % 31) = t := by
        have hq := divT_bd (a := t * (a + 31 - b) % 31) ((a + 31 - b) % 31) (by omega) (by omega)
        refine toF_inj hq.1 hq.2 h0 h1 ?_
        rw [toF_divT (by omega) (by omega) (by omega) (by omega), toF_emod, toF_mul, toF_emod, toF_less]
        have := mul_inv _ (toF_ne ha.1 ha.2 hb.1 hb.2 (Ne.symm hba))
        grind
      rw [e]
      exact term_self i a ha l (j + 1) t h0 h1 hr' hd'

theorem nodup_ne {l : List Int} (h : l.Nodup) {i j : Nat} {a b : Int} (ha : l[i]? = some a) (hb : l[j]? = some b) (hij : i ≠ j) : a ≠ b := by
  intro e
  subst e
  obtain ⟨h1, e1⟩ := List.getElem?_eq_some_iff.1 ha
  obtain ⟨h2, e2⟩ := List.getElem?_eq_some_iff.1 hb
  exact hij ((List.getElem_inj h).1 (e1.trans e2.symm))

theorem at_through {x y : List Int} (h : PtsOk x y) {m : Nat} {p v : Int} (hp : x[m]? = some p) (hv : y[m]? = some v) : ∀ (r i : Nat) (s : Int), 0 ≤ s → s < 31 → r = x.length - i → i ≤ x.length →
    atFrom x p (x.drop i) (y.drop i) i s = if i ≤ m then (s + v) % 31 else s
  | 0, i, s, h0, h1, hr, hi => by
    obtain rfl : i = x.length := by omega
    have hm := (List.getElem?_eq_some_iff.1 hp).1
    simp [atFrom]; omega
  | r + 1, i, s, h0, h1, hr, hi => by
    have hlt : i < x.length := by omega
    have hlt' : i < y.length := by have := h.len; omega
    have ea : x[i]? = some x[i] := by simp [hlt]
    have eb : y[i]? = some y[i] := by simp [hlt']
    rw [List.drop_eq_getElem_cons hlt, List.drop_eq_getElem_cons hlt']
    simp only [atFrom]
    have hy := h.numy y[i] (List.getElem_mem hlt')
    by_cases hmi : i = m
    · subst hmi
      rw [hp] at ea
      rw [hv] at eb
      cases ea; cases eb
      rw [term_self i x[i] (h.numx _ (List.getElem_mem hlt)) x 0 y[i] hy.1 hy.2 h.numx (fun k b hb hne => (nodup_ne h.nodup hb hp (by omega)))]
      rw [at_through h hp hv r (i + 1) _ (by omega) (by omega) (by omega) (by omega), if_neg (by omega), if_pos (by omega)]
    · rw [term_other i x[i] p x 0 m y[i] hp (by omega), Int.add_zero, Int.emod_eq_of_lt h0 h1]
      rw [at_through h hp hv r (i + 1) s h0 h1 (by omega) (by omega)]
      by_cases hle : i ≤ m
      · rw [if_pos (by omega), if_pos hle]
      · rw [if_neg (by omega), if_neg hle]
/-- The curve goes through its points. -/
theorem atV_through {x y : List Int} (h : PtsOk x y) {m : Nat} {p v : Int} (hp : x[m]? = some p) (hv : y[m]? = some v) : atV x y p = v := by
  have hy := h.numy v (List.mem_of_getElem? hv)
  have := at_through h hp hv x.length 0 0 (by omega) (by omega) (by omega) (by omega)
  simp only [List.drop_zero] at this
  unfold atV
  rw [this, if_pos (by omega)]
  omega

/-- Whatever goes through the points as such a curve does is it. -/
theorem atV_uniq {x y : List Int} (h : PtsOk x y) {f : Int → Int} (hf : DegI x.length f) (hb : ∀ p, 0 ≤ f p ∧ f p < 31) (ht : ∀ (m : Nat) (p v : Int), x[m]? = some p → y[m]? = some v → f p = v) (p : Int) : f p = atV x y p := by
  obtain ⟨g, hg, eg⟩ := hf
  obtain ⟨k, hk, ek⟩ := atV_deg (y := y) h.pos
  have hd : (x.map toF).Nodup := by
    refine List.pairwise_map.2 (List.Pairwise.imp_of_mem ?_ h.nodup)
    intro a b ha hb hab
    have h1 := h.numx a ha
    have h2 := h.numx b hb
    exact fun e => hab (toF_inj h1.1 h1.2 h2.1 h2.2 e)
  have hs := Deg.uniq hg hk hd (by simp) (by
    intro z hz
    obtain ⟨a, ha, rfl⟩ := List.mem_map.1 hz
    obtain ⟨m, hm, rfl⟩ := List.getElem_of_mem ha
    have hm' : m < y.length := by have := h.len; omega
    rw [← eg, ← ek, ht m x[m] y[m] (by simp [hm]) (by simp [hm']), atV_through h (m := m) (v := y[m]) (by simp [hm]) (by simp [hm'])])
  have ha := atV_bd x y p
  have hb' := hb p
  refine toF_inj hb'.1 hb'.2 ha.1 ha.2 ?_
  rw [eg, ek]
  exact hs _

/-! ### The reference's way -/
theorem getD_set (c : List Int) (i j : Nat) (z : Int) (hi : i < c.length) : (c.set i z).getD j 0 = if j = i then z else c.getD j 0 := by
  simp only [List.getD_eq_getElem?_getD, List.getElem?_set]
  by_cases h : i = j
  · subst h; simp [hi]
  · simp [h, Ne.symm h]

section
variable {x y : List Int}
theorem ddIn_good (h : PtsOk x y) (k : Nat) (hk : 1 ≤ k) : ∀ (m : Nat) (c : List Int), k + m ≤ x.length → c.length = x.length → AllNum c →
    (∀ i, i < x.length → toF (c.getD i 0) = dd (fun i => toF (x.getD i 0)) (fun i => toF (y.getD i 0)) i (if k + m ≤ i then k else min i (k - 1))) →
    ∀ i, i < x.length → toF ((ddIn x k m c).getD i 0) = dd (fun i => toF (x.getD i 0)) (fun i => toF (y.getD i 0)) i (if k ≤ i then k else min i (k - 1))
  | 0, c, _, _, _, hc => hc
  | m + 1, c, hm, hl, hn, hc => by
    simp only [ddIn]
    have hx : ∀ i, i < x.length → 0 ≤ x.getD i 0 ∧ x.getD i 0 < 31 := fun i _ => AllNum.getD h.numx i
    have l1 := lessV_bd (c.getD (k + m) 0) (c.getD (k + m - 1) 0)
    have l2 := lessV_bd (x.getD (k + m) 0) (x.getD m 0)
    have hq := quoV_bd (lessV (c.getD (k + m) 0) (c.getD (k + m - 1) 0)) (lessV (x.getD (k + m) 0) (x.getD m 0))
    have hne : x.getD (k + m) 0 ≠ x.getD m 0 := by
      have e1 : x[k + m]? = some (x.getD (k + m) 0) := by simp [show k + m < x.length by omega]
      have e2 : x[m]? = some (x.getD m 0) := by simp [show m < x.length by omega]
      exact nodup_ne h.nodup e1 e2 (by omega)
    have hf := toF_ne (hx (k + m) (by omega)).1 (hx (k + m) (by omega)).2 (hx m (by omega)).1 (hx m (by omega)).2 hne
    have hpos : 0 < lessV (x.getD (k + m) 0) (x.getD m 0) := by
      rcases Int.lt_or_le 0 (lessV (x.getD (k + m) 0) (x.getD m 0)) with h' | h'
      · exact h'
      · have e0 : lessV (x.getD (k + m) 0) (x.getD m 0) = 0 := by omega
        have := toF_lessV (x.getD (k + m) 0) (x.getD m 0)
        rw [e0, toF_zero] at this
        exact absurd this.symm hf
    refine ddIn_good h k hk m _ (by omega) (by simpa using hl) (hn.set _ hq.1 hq.2) ?_
    intro i hi
    rw [getD_set _ _ _ _ (by omega)]
    by_cases hi2 : i = k + m
    · subst hi2
      rw [if_pos rfl, if_pos (Nat.le_refl _), toF_quoV l1.1 l1.2 hpos l2.2, toF_lessV, toF_lessV]
      rw [hc (k + m) (by omega), hc (k + m - 1) (by omega), if_neg (by omega), if_neg (by omega)]
      obtain ⟨k', rfl⟩ : ∃ k', k = k' + 1 := ⟨k - 1, by omega⟩
      simp only [dd]
      rw [show min (k' + 1 + m) (k' + 1 - 1) = k' by omega, show min (k' + 1 + m - 1) (k' + 1 - 1) = k' by omega, show k' + 1 + m - 1 - k' = m by omega]
    · rw [if_neg hi2, hc i hi]
      by_cases hle : k + m ≤ i
      · rw [if_pos hle, if_pos (show k + (m + 1) ≤ i by omega)]
      · rw [if_neg hle, if_neg (show ¬ k + (m + 1) ≤ i by omega)]
theorem ddOut_good (h : PtsOk x y) : ∀ (r k : Nat) (c : List Int), 1 ≤ k → k + r = x.length → c.length = x.length → AllNum c →
    (∀ i, i < x.length → toF (c.getD i 0) = dd (fun i => toF (x.getD i 0)) (fun i => toF (y.getD i 0)) i (min i (k - 1))) →
    ∀ i, i < x.length → toF ((ddOut x r k c).getD i 0) = dd (fun i => toF (x.getD i 0)) (fun i => toF (y.getD i 0)) i i
  | 0, k, c, hk, hkr, _, _, hc => fun i hi => by
    rw [show ddOut x 0 k c = c from rfl, hc i hi, show min i (k - 1) = i by omega]
  | r + 1, k, c, hk, hkr, hl, hn, hc => by
    simp only [ddOut]
    refine ddOut_good h r (k + 1) _ (by omega) (by omega) (by rw [ddIn_len]; exact hl) (AllNum.ddIn _ hn) ?_
    intro i hi
    rw [ddIn_good h k hk (x.length - k) c (by omega) hl hn (fun i hi => by rw [hc i hi, if_neg (by omega)]) i hi]
    by_cases hle : k ≤ i
    · rw [if_pos hle, show min i (k + 1 - 1) = k by omega]
    · rw [if_neg hle, show min i (k + 1 - 1) = min i (k - 1) by omega]

theorem prodF_shift (xf : Nat → F) (i : Nat) : ∀ (k : Nat) (p : F), k ≤ i → prodF xf (i + 1) (k + 1) p = (p - xf i) * prodF xf i k p
  | 0, p, _ => by simp only [prodF]; rw [show i + 1 - 1 - 0 = i by omega]
  | k + 1, p, h => by
    rw [prodF, prodF_shift xf i k p (by omega)]
    simp only [prodF]
    rw [show i + 1 - 1 - (k + 1) = i - 1 - k by omega]
    grind
def sumTo (xf yf : Nat → F) (p : F) : Nat → F
  | 0 => 0
  | m + 1 => newt xf yf m m p
theorem sumTo_step (xf yf : Nat → F) (p : F) : ∀ m, sumTo xf yf p (m + 1) = sumTo xf yf p m + dd xf yf m m * prodF xf m m p
  | 0 => by simp only [sumTo, newt, dd, prodF]; grind
  | m + 1 => by simp only [sumTo, newt]; rw [show m + 1 - 1 = m by omega]
theorem ho_good (c : List Int) (p : Int) (hc : ∀ i, i < x.length → toF (c.getD i 0) = dd (fun i => toF (x.getD i 0)) (fun i => toF (y.getD i 0)) i i) : ∀ (m : Nat) (v : Int), m ≤ x.length →
    toF (hoFrom x c p m v) = sumTo (fun i => toF (x.getD i 0)) (fun i => toF (y.getD i 0)) (toF p) m + toF v * prodF (fun i => toF (x.getD i 0)) m m (toF p)
  | 0, v, _ => by simp only [hoFrom, sumTo, prodF]; grind
  | m + 1, v, hm => by
    simp only [hoFrom]
    rw [ho_good c p hc m _ (by omega), toF_emod, toF_add, toF_mul, toF_lessV, hc m (by omega), sumTo_step, prodF_shift _ m m _ (Nat.le_refl _)]
    grind
theorem hoFrom_bd (x c : List Int) (p : Int) : ∀ (m : Nat) (v : Int), 0 ≤ v → v < 31 → 0 ≤ hoFrom x c p m v ∧ hoFrom x c p m v < 31
  | 0, v, h0, h1 => ⟨h0, h1⟩
  | m + 1, v, _, _ => hoFrom_bd x c p m _ (by omega) (by omega)

/-- The two ways are one. -/
theorem valV_eq (h : PtsOk x y) (p : Int) : valV x y p = atV x y p := by
  have hl := h.len
  have hp := h.pos
  have hdd := ddOut_good h (x.length - 1) 1 y (by omega) (by omega) hl.symm h.numy (fun i hi => by rw [show min i (1 - 1) = 0 by omega]; rfl)
  have hval : ∀ q, toF (valV x y q) = newt (fun i => toF (x.getD i 0)) (fun i => toF (y.getD i 0)) (x.length - 1) (x.length - 1) (toF q) := by
    intro q
    unfold valV
    rw [ho_good (y := y) _ q hdd x.length 0 (Nat.le_refl _), toF_zero]
    obtain ⟨n, hn⟩ : ∃ n, x.length = n + 1 := ⟨x.length - 1, by omega⟩
    rw [hn]
    simp only [sumTo, Nat.add_sub_cancel]
    grind
  have hinj : ∀ i j, i < x.length → j < x.length → toF (x.getD i 0) = toF (x.getD j 0) → i = j := by
    intro i j hi hj e
    by_cases hij : i = j
    · exact hij
    · have e1 : x[i]? = some (x.getD i 0) := by simp [hi]
      have e2 : x[j]? = some (x.getD j 0) := by simp [hj]
      have b1 := AllNum.getD h.numx i
      have b2 := AllNum.getD h.numx j
      exact absurd (toF_inj b1.1 b1.2 b2.1 b2.2 e) (nodup_ne h.nodup e1 e2 hij)
  obtain ⟨ld, thr⟩ := newt_good (y := fun i => toF (y.getD i 0)) x.length hinj (x.length - 1) (x.length - 1) (Nat.le_refl _) (by omega)
  refine atV_uniq h ⟨_, ld.deg.mono (by omega), hval⟩ (fun q => hoFrom_bd _ _ _ _ _ (by omega) (by omega)) ?_ p
  intro m q v hq hv
  have hm := (List.getElem?_eq_some_iff.1 hq).1
  have hvn := h.numy v (List.mem_of_getElem? hv)
  have hb := hoFrom_bd x (ddOut x (x.length - 1) 1 y) q x.length 0 (by omega) (by omega)
  refine toF_inj hb.1 hb.2 hvn.1 hvn.2 ?_
  have e := thr (x.length - 1 - m) (by omega)
  rw [show x.length - 1 - (x.length - 1 - m) = m by omega] at e
  have eq : x.getD m 0 = q := by simp [List.getD_eq_getElem?_getD, hq]
  have ev : y.getD m 0 = v := by simp [List.getD_eq_getElem?_getD, hv]
  rw [eq, ev] at e
  exact (hval q).trans e
end
/-- A curve through points of one height; of a line. -/
theorem PtsOk.other {x y z : List Int} (h : PtsOk x y) (hl : z.length = x.length) (hz : ∀ a ∈ z, 0 ≤ a ∧ a < 31) : PtsOk x z := ⟨hl.symm, h.pos, h.top, h.numx, hz, h.nodup⟩
theorem atV_flat {x : List Int} {a : Int} (h : PtsOk x (x.map fun _ => a)) (h0 : 0 ≤ a) (h1 : a < 31) (p : Int) : atV x (x.map fun _ => a) p = a := by
  refine (atV_uniq h (f := fun _ => a) ⟨fun _ => toF a, (Deg.const _).mono h.pos, fun _ => rfl⟩ (fun _ => ⟨h0, h1⟩) ?_ p).symm
  intro m q v hq hv
  rw [List.getElem?_map, hq] at hv
  simpa using hv
def lineV (a b x : Int) : Int := (a + b * modV x 31) % 31
theorem modV_num {x : Int} (h : 0 ≤ x ∧ x < 31) : modV x 31 = x := by unfold modV; omega
theorem atV_line {x y : List Int} {a b : Int} (h : PtsOk x y) (hl : 2 ≤ x.length) (p : Int) : atV x (x.map (lineV a b)) p = (a + b * p) % 31 := by
  have h' : PtsOk x (x.map (lineV a b)) := h.other (by simp) (by intro z hz; obtain ⟨c, _, rfl⟩ := List.mem_map.1 hz; unfold lineV; omega)
  refine (atV_uniq h' (f := fun p => (a + b * p) % 31) ⟨fun z => toF a + toF b * (z - 0) , ?_, fun q => ?_⟩ (fun _ => by omega) ?_ p).symm
  · refine Deg.mono ?_ hl
    exact (((Deg.const (toF a)).mono (by omega)).add (((Deg.const (toF b)).lin 0))).congr fun z => by grind
  · dsimp only
    rw [toF_emod, toF_add, toF_mul]
    grind
  · intro m q v hq hv
    rw [List.getElem?_map, hq] at hv
    simp only [Option.map_some, Option.some.injEq] at hv
    rw [← hv, lineV, modV_num (h.numx q (List.mem_of_getElem? hq))]

/-- The curve through sums. -/
def sumL (y z : List Int) : List Int := List.zipWith (fun a b => (a + b) % 31) y z
theorem atV_sum {x y z : List Int} (h : PtsOk x y) (h' : PtsOk x z) : PtsOk x (sumL y z) ∧ ∀ p, atV x (sumL y z) p = (atV x y p + atV x z p) % 31 := by
  have hl := h.len
  have hl' := h'.len
  have hs : PtsOk x (sumL y z) := h.other (by simp [sumL]; omega) (by
    intro a ha
    obtain ⟨m, hm, rfl⟩ := List.getElem_of_mem ha
    simp only [sumL, List.getElem_zipWith]
    omega)
  refine ⟨hs, fun p => (atV_uniq hs (f := fun p => (atV x y p + atV x z p) % 31) ?_ (fun _ => by omega) ?_ p).symm⟩
  · obtain ⟨g, hg, eg⟩ := atV_deg (y := y) h.pos
    obtain ⟨k, hk, ek⟩ := atV_deg (y := z) h.pos
    refine ⟨fun q => g q + k q, hg.add hk, fun p => ?_⟩
    dsimp only
    rw [toF_emod, toF_add, eg, ek]
  · intro m q v hq hv
    have hm := (List.getElem?_eq_some_iff.1 hq).1
    have e1 : y[m]? = some y[m] := by simp [show m < y.length by omega]
    have e2 : z[m]? = some z[m] := by simp [show m < z.length by omega]
    simp only [sumL, List.getElem?_zipWith, e1, e2] at hv
    rw [atV_through h hq e1, atV_through h' hq e2]
    simpa using hv
/-- In whatever order points come: turned round. -/
theorem atV_rev {x y : List Int} (h : PtsOk x y) : PtsOk x.reverse y.reverse ∧ ∀ p, atV x.reverse y.reverse p = atV x y p := by
  have hl := h.len
  have hr : PtsOk x.reverse y.reverse := ⟨by simpa using hl, by simpa using h.pos, by simpa using h.top, fun a ha => h.numx a (by simpa using ha), fun a ha => h.numy a (by simpa using ha), List.pairwise_reverse.2 (h.nodup.imp fun h => Ne.symm h)⟩
  refine ⟨hr, fun p => (atV_uniq hr (f := atV x y) (by rw [List.length_reverse]; exact atV_deg h.pos) (fun p => atV_bd x y p) ?_ p).symm⟩
  intro m q v hq hv
  have hm := (List.getElem?_eq_some_iff.1 hq).1
  rw [List.length_reverse] at hm
  rw [List.getElem?_reverse (by omega)] at hq
  rw [List.getElem?_reverse (by omega), ← hl] at hv
  exact atV_through h hq hv

/-- Through as many of its own points, at other places, goes the same curve. -/
theorem atV_same {x y a : List Int} (h : PtsOk x y) (hn : a.Nodup) (hr : ∀ k ∈ a, 0 ≤ k ∧ k < 31) (hl : a.length = x.length) :
    PtsOk a (a.map (atV x y)) ∧ ∀ p, atV a (a.map (atV x y)) p = atV x y p := by
  have hs : PtsOk a (a.map (atV x y)) := ⟨by simp, by rw [hl]; exact h.pos, by rw [hl]; exact h.top, hr, by intro z hz; obtain ⟨k, _, rfl⟩ := List.mem_map.1 hz; exact atV_bd x y k, hn⟩
  refine ⟨hs, fun p => (atV_uniq hs (f := atV x y) (by rw [hl]; exact atV_deg h.pos) (fun p => atV_bd x y p) ?_ p).symm⟩
  intro m q v hq hv
  rw [List.getElem?_map, hq] at hv
  simpa using hv
/-- One more of its own points changes nothing. -/
theorem atV_more {x y : List Int} (h : PtsOk x y) {k : Int} (h0 : 0 ≤ k) (h1 : k < 31) (hk : k ∉ x) (h8 : x.length < 8) :
    PtsOk (x ++ [k]) (y ++ [atV x y k]) ∧ ∀ p, atV (x ++ [k]) (y ++ [atV x y k]) p = atV x y p := by
  have hl := h.len
  have hb := atV_bd x y k
  have hs : PtsOk (x ++ [k]) (y ++ [atV x y k]) := by
    refine ⟨by simp [hl], by simp, by simp; omega, ?_, ?_, ?_⟩
    · intro a ha
      simp at ha
      rcases ha with ha | rfl
      · exact h.numx a ha
      · exact ⟨h0, h1⟩
    · intro a ha
      simp at ha
      rcases ha with ha | rfl
      · exact h.numy a ha
      · exact hb
    · rw [List.nodup_append]
      exact ⟨h.nodup, by simp, by intro a ha b hb e; simp at hb; subst hb; subst e; exact hk ha⟩
  refine ⟨hs, fun p => (atV_uniq hs (f := atV x y) (by
    obtain ⟨g, hg, eg⟩ := atV_deg (y := y) h.pos
    exact ⟨g, hg.mono (by simp), eg⟩) (fun p => atV_bd x y p) ?_ p).symm⟩
  intro m q v hq hv
  by_cases hm : m < x.length
  · rw [List.getElem?_append_left hm] at hq
    rw [List.getElem?_append_left (by omega)] at hv
    exact atV_through h hq hv
  · rw [List.getElem?_append_right (by omega)] at hq
    rw [List.getElem?_append_right (by omega), ← hl] at hv
    cases hd : m - x.length with
    | zero =>
      rw [hd] at hq hv
      simp at hq hv
      rw [← hv, ← hq]
    | succ j => rw [hd] at hq; simp at hq

end Go.Proofs.Ytnpdojjffbhalaa
