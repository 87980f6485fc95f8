/-
  What Join answers, in plain lists.
-/
import Derived.Test.YtnpdojjffbhalaaPred
import Derived.Test.YtnpdojjffbhalaaSplit
namespace Go.Proofs.Ytnpdojjffbhalaa

/-- What is wrong with shares, one behind the other. -/
def checkL (n o s : Int) : List Sh → List Sh → Int
  | _, [] => 0
  | seen, t :: r => if oneV n o s t.1 t.2 ≠ 0 then oneV n o s t.1 t.2 else if hasN seen t.1 then 5 else checkL n o s (seen ++ [t]) r
/-- What is wrong with shares, ahead of what they say. -/
def checksL (n o s : Int) (ls : List Sh) : Int :=
  if planV n o s ≠ 0 then planV n o s else if 8 < (ls.length : Int) then 1 else if checkL n o s [] ls ≠ 0 then checkL n o s [] ls else if (ls.length : Int) < n then 7 else 0

theorem oneV_ok {n o s N : Int} {l : List Int} (h : oneV n o s N l = 0) : 0 ≤ N ∧ N < o ∧ (l.length : Int) = longV n o s ∧ ∀ z ∈ l, 0 ≤ z ∧ z < 31 := by
  unfold oneV at h
  split at h
  · rename_i h1; exact absurd h h1
  · split at h
    · simp at h
    · rename_i h2
      split at h
      · simp at h
      · rename_i h3
        exact ⟨by omega, by omega, by simpa using h3, (allV_ok l).1 h⟩
theorem hasN_iff (ls : List Sh) (M : Int) : hasN ls M = true ↔ ∃ t ∈ ls, t.1 = M := by simp [hasN]
theorem checkL_ok {n o s : Int} : ∀ {r seen : List Sh}, checkL n o s seen r = 0 → (seen.map (·.1)).Pairwise (· ≠ ·) → (∀ t ∈ r, oneV n o s t.1 t.2 = 0) ∧ ((seen ++ r).map (·.1)).Pairwise (· ≠ ·)
  | [], seen, _, hp => ⟨by simp, by simpa using hp⟩
  | t :: r, seen, h, hp => by
    unfold checkL at h
    split at h
    · rename_i h1; exact absurd h h1
    · rename_i h1
      split at h
      · simp at h
      · rename_i h2
        have hp2 : ((seen ++ [t]).map (·.1)).Pairwise (· ≠ ·) := by
          rw [List.map_append, List.pairwise_append]
          refine ⟨hp, by simp, ?_⟩
          intro a ha b hb e
          obtain ⟨u, hu, rfl⟩ := List.mem_map.1 ha
          simp at hb
          subst hb
          exact h2 ((hasN_iff _ _).2 ⟨u, hu, e⟩)
        obtain ⟨i1, i2⟩ := checkL_ok h hp2
        refine ⟨?_, by simpa using i2⟩
        intro u hu
        rcases List.mem_cons.1 hu with rfl | hu
        · simpa using h1
        · exact i1 u hu

/-- The places of the first shares; their numbers in row i. -/
def xsL (n : Nat) (ls : List Sh) : List Int := (ls.take n).map (·.1)
def ysL (n : Nat) (ls : List Sh) (i : Nat) : List Int := (ls.take n).map fun t => t.2.getD i 0
def outK (n : Nat) (ls : List Sh) (i k : Nat) : List Int := (List.range k).map fun (j : Nat) => atV (xsL n ls) (ysL n ls i) (j : Int)
def outL (n : Nat) (ls : List Sh) (i : Nat) : List Int := outK n ls i n
def tornL (n : Nat) (ls : List Sh) (i : Nat) : Bool := (ls.drop n).any fun t => decide (atV (xsL n ls) (ysL n ls i) t.1 ≠ t.2.getD i 0)
/-- The first r rows: what they are of; is one of them torn? -/
def dataL (n : Nat) (ls : List Sh) (r : Nat) : List Int := ((List.range r).map (outL n ls)).flatten
def tornsL (n : Nat) (ls : List Sh) (r : Nat) : Bool := (List.range r).any (tornL n ls)
/-- Join's errno and its content. -/
def joinE (n o s : Nat) (ls : List Sh) : Int :=
  if checksL n o s ls ≠ 0 then checksL n o s ls else if tornsL n ls (rowsN n s) then 9 else if hasNot ((dataL n ls (rowsN n s)).drop s) then 9 else 0
def joinD (n s : Nat) (ls : List Sh) : List Int := (dataL n ls (rowsN n s)).take s

/-- The content, or none. -/
def joinC (n o s : Nat) (ls : List Sh) : List Int := if joinE n o s ls = 0 then joinD n s ls else []
theorem joinC_err {n o s : Nat} {ls : List Sh} (h : joinE n o s ls ≠ 0) : joinC n o s ls = [] := by unfold joinC; rw [if_neg h]
theorem joinC_ok {n o s : Nat} {ls : List Sh} (h : joinE n o s ls = 0) : joinC n o s ls = joinD n s ls := by unfold joinC; rw [if_pos h]
theorem xsL_step {ls : List Sh} {k : Nat} {t : Sh} (h : ls[k]? = some t) : xsL (k + 1) ls = xsL k ls ++ [t.1] := by simp [xsL, List.take_add_one, h]
theorem ysL_step {ls : List Sh} {k : Nat} {t : Sh} (i : Nat) (h : ls[k]? = some t) : ysL (k + 1) ls i = ysL k ls i ++ [t.2.getD i 0] := by simp [ysL, List.take_add_one, h]
theorem outK_step (n : Nat) (ls : List Sh) (i k : Nat) : outK n ls i (k + 1) = outK n ls i k ++ [atV (xsL n ls) (ysL n ls i) (k : Int)] := by simp [outK, List.range_succ]
theorem outK_len (n : Nat) (ls : List Sh) (i k : Nat) : (outK n ls i k).length = k := by simp [outK]
theorem dataL_step (n : Nat) (ls : List Sh) (r : Nat) : dataL n ls (r + 1) = dataL n ls r ++ outK n ls r n := by simp [dataL, List.range_succ, outL]
theorem dataL_len (n : Nat) (ls : List Sh) : ∀ r, (dataL n ls r).length = r * n
  | 0 => by simp [dataL]
  | r + 1 => by rw [dataL_step, List.length_append, dataL_len n ls r, outK_len, Nat.add_mul, Nat.one_mul]
theorem tornsL_step (n : Nat) (ls : List Sh) (r : Nat) : tornsL n ls (r + 1) = (tornsL n ls r || tornL n ls r) := by simp [tornsL, List.range_succ]
theorem tornsL_of {n : Nat} {ls : List Sh} {r m : Nat} (h : tornL n ls r = true) (hr : r < m) : tornsL n ls m = true := by
  simp only [tornsL, List.any_eq_true]
  exact ⟨r, List.mem_range.2 hr, h⟩
theorem longV_nat {n o s : Nat} (h : planV n o s = 0) : longV n o s = (rowsN n s : Int) := by
  obtain ⟨p1, p2, p3, p4, p5, p6⟩ := planV_bd h
  unfold longV rowsN
  rw [if_pos h]
  rcases (by omega : n = 1 ∨ n = 2 ∨ n = 3 ∨ n = 4) with rfl | rfl | rfl | rfl <;> omega
theorem rowsN_bd {n s : Nat} (h1 : 1 ≤ n) (h2 : n ≤ 4) (h3 : 1 ≤ s) (h4 : s ≤ 24) : s ≤ rowsN n s * n ∧ rowsN n s * n < s + n ∧ rowsN n s ≤ 24 := by
  unfold rowsN
  rcases (by omega : n = 1 ∨ n = 2 ∨ n = 3 ∨ n = 4) with rfl | rfl | rfl | rfl <;> omega

/-- What right shares are. -/
structure Right (n o s : Nat) (ls : List Sh) : Prop where
  plan : planV n o s = 0
  few : n ≤ ls.length
  many : ls.length ≤ 8
  num : ∀ t ∈ ls, 0 ≤ t.1 ∧ t.1 < o
  len : ∀ t ∈ ls, t.2.length = rowsN n s
  vals : ∀ t ∈ ls, ∀ z ∈ t.2, 0 ≤ z ∧ z < 31
  nodup : (ls.map (·.1)).Nodup
theorem right_of {n o s : Nat} {ls : List Sh} (hp : planV n o s = 0) (hn : n ≤ ls.length) (hl : ls.length ≤ 8) (hE : checkL n o s [] ls = 0) : Right n o s ls := by
  obtain ⟨h1, h2⟩ := checkL_ok hE (by simp)
  refine ⟨hp, hn, hl, ?_, ?_, ?_, by simpa [List.Nodup] using h2⟩
  · intro t ht
    obtain ⟨g1, g2, _, _⟩ := oneV_ok (h1 t ht)
    exact ⟨g1, g2⟩
  · intro t ht
    obtain ⟨_, _, g3, _⟩ := oneV_ok (h1 t ht)
    rw [longV_nat hp] at g3
    omega
  · intro t ht
    exact (oneV_ok (h1 t ht)).2.2.2
theorem Right.pts {n o s : Nat} {ls : List Sh} (h : Right n o s ls) (r : Nat) : PtsOk (xsL n ls) (ysL n ls r) := by
  obtain ⟨p1, p2, p3, p4, p5, p6⟩ := planV_bd h.plan
  have hf := h.few
  refine ⟨by simp [xsL, ysL], by simp [xsL]; omega, by simp [xsL]; omega, ?_, ?_, ?_⟩
  · intro a ha
    obtain ⟨t, ht, rfl⟩ := List.mem_map.1 ha
    have := h.num t (List.mem_of_mem_take ht)
    omega
  · intro a ha
    obtain ⟨t, ht, rfl⟩ := List.mem_map.1 ha
    exact AllNum.getD (h.vals t (List.mem_of_mem_take ht)) _
  · have := h.nodup
    exact List.Nodup.sublist (List.Sublist.map _ (List.take_sublist n ls)) this

end Go.Proofs.Ytnpdojjffbhalaa
