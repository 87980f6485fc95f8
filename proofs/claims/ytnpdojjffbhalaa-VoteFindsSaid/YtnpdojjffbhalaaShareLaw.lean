/-
  The plain laws of shares: the first ones have the content; sums; any of them are enough.
-/
import Derived.Test.YtnpdojjffbhalaaJoinMath
namespace Go.Proofs.Ytnpdojjffbhalaa

theorem placesL_get {n j : Nat} (h : j < n) : (placesL n)[j]? = some (j : Int) := by simp [placesL, h]
theorem rowL_get (data : List Int) (r : Nat) {n j : Nat} (h : j < n) : (rowL n data r)[j]? = some (data.getD (r * n + j) 0) := by simp [rowL, h]
theorem partV_place {n : Nat} {data : List Int} (hn1 : 1 ≤ n) (hn : n ≤ 4) (hd : ∀ z ∈ data, 0 ≤ z ∧ z < 31) (r : Nat) {j : Nat} (hj : j < n) : partV n data j r = data.getD (r * n + j) 0 :=
  atV_through (ptsOk_row hn1 hn hd r) (placesL_get hj) (rowL_get data r hj)
theorem partV_bd (n : Nat) (data : List Int) (k r : Nat) : 0 ≤ partV n data k r ∧ partV n data k r < 31 := atV_bd _ _ _

theorem sharesL_get (n : Nat) (data : List Int) (r : Nat) {o k : Nat} (h : k < o) : (sharesL n data o r)[k]? = some (shareL n data r k) := by simp [sharesL, h]
theorem sharesL_len (n : Nat) (data : List Int) (o r : Nat) : (sharesL n data o r).length = o := by simp [sharesL]
theorem shareL_len (n : Nat) (data : List Int) (r k : Nat) : (shareL n data r k).2.length = r := by simp [shareL]
theorem shareL_get (n : Nat) (data : List Int) {r i : Nat} (k : Nat) (h : i < r) : (shareL n data r k).2[i]? = some (partV n data k i) := by simp [shareL, h]
theorem sharesL_take (n : Nat) (data : List Int) (r : Nat) {o m : Nat} (h : m ≤ o) : (sharesL n data o r).take m = sharesL n data m r := by
  apply List.ext_getElem (by simp [sharesL]; omega)
  intro i h1 h2
  simp [sharesL]

/-- Sums of contents. -/
theorem sumL_get {a b : List Int} {i : Nat} {x y : Int} (ha : a[i]? = some x) (hb : b[i]? = some y) : (sumL a b)[i]? = some ((x + y) % 31) := by
  simp [sumL, List.getElem?_zipWith, ha, hb]
theorem sumL_len {a b : List Int} (h : a.length = b.length) : (sumL a b).length = a.length := by simp [sumL, h]
theorem sumL_getD {a b : List Int} (h : a.length = b.length) (i : Nat) : (sumL a b).getD i 0 = (a.getD i 0 + b.getD i 0) % 31 := by
  simp only [List.getD_eq_getElem?_getD]
  by_cases hi : i < a.length
  · rw [sumL_get (List.getElem?_eq_getElem hi) (List.getElem?_eq_getElem (by omega))]
    simp [hi, show i < b.length by omega]
  · rw [List.getElem?_eq_none (by rw [sumL_len h]; omega), List.getElem?_eq_none (by omega), List.getElem?_eq_none (by omega)]
    simp
theorem rowL_sum {a b : List Int} (h : a.length = b.length) (n r : Nat) : rowL n (sumL a b) r = sumL (rowL n a r) (rowL n b r) := by
  apply List.ext_getElem?
  intro i
  by_cases hi : i < n
  · rw [rowL_get _ _ hi, sumL_get (rowL_get a r hi) (rowL_get b r hi), sumL_getD h]
  · rw [List.getElem?_eq_none (by rw [rowL_len]; omega), List.getElem?_eq_none (by rw [sumL_len (by rw [rowL_len, rowL_len]), rowL_len]; omega)]
theorem partV_sum {n : Nat} {a b : List Int} (hn1 : 1 ≤ n) (hn : n ≤ 4) (ha : ∀ z ∈ a, 0 ≤ z ∧ z < 31) (hb : ∀ z ∈ b, 0 ≤ z ∧ z < 31) (h : a.length = b.length) (k r : Nat) :
    partV n (sumL a b) k r = (partV n a k r + partV n b k r) % 31 := by
  unfold partV
  rw [rowL_sum h]
  exact (atV_sum (ptsOk_row hn1 hn ha r) (ptsOk_row hn1 hn hb r)).2 k
theorem sumL_nums {a b : List Int} : ∀ z ∈ sumL a b, 0 ≤ z ∧ z < 31 := by
  intro z hz
  unfold sumL at hz
  obtain ⟨i, hi, rfl⟩ := List.getElem_of_mem hz
  simp
  omega

/-! ### Any of the shares are enough -/
theorem checkL_zero {n o s : Int} : ∀ {r seen : List Sh}, (∀ t ∈ r, oneV n o s t.1 t.2 = 0) → ((seen ++ r).map (·.1)).Pairwise (· ≠ ·) → checkL n o s seen r = 0
  | [], _, _, _ => rfl
  | t :: r, seen, h1, h2 => by
    unfold checkL
    rw [if_neg (by simpa using h1 t (by simp)), if_neg]
    · exact checkL_zero (fun u hu => h1 u (by simp [hu])) (by simpa using h2)
    · intro hh
      obtain ⟨u, hu, he⟩ := (hasN_iff _ _).1 hh
      rw [List.map_append, List.pairwise_append] at h2
      exact h2.2.2 u.1 (List.mem_map.2 ⟨u, hu, rfl⟩) t.1 (by simp) he
theorem allV_zero {l : List Int} (h : ∀ z ∈ l, 0 ≤ z ∧ z < 31) : allV l = 0 := (allV_ok l).2 h
theorem oneV_zero {n o s : Nat} {t : Sh} (hp : planV n o s = 0) (h0 : 0 ≤ t.1) (h1 : t.1 < o) (hl : t.2.length = rowsN n s) (hv : ∀ z ∈ t.2, 0 ≤ z ∧ z < 31) : oneV n o s t.1 t.2 = 0 := by
  unfold oneV
  rw [if_neg (by simpa using hp), if_neg (by omega), if_neg (by rw [longV_nat hp, hl]; simp), allV_zero hv]

/-- Some shares of a content, each one once. -/
structure SomeOf (n : Nat) (data : List Int) (o r : Nat) (ls : List Sh) : Prop where
  of : ∀ t ∈ ls, ∃ k : Nat, k < o ∧ t = shareL n data r k
  once : (ls.map (·.1)).Nodup
theorem SomeOf.one {n o s : Nat} {data : List Int} {ls : List Sh} (hp : planV n o s = 0) (h : SomeOf n data o (rowsN n s) ls) : ∀ t ∈ ls, oneV n o s t.1 t.2 = 0 := by
  intro t ht
  obtain ⟨k, hk, rfl⟩ := h.of t ht
  refine oneV_zero hp (by simp [shareL]) (by simp [shareL]; omega) (shareL_len _ _ _ _) ?_
  intro z hz
  obtain ⟨i, hi, rfl⟩ := List.getElem_of_mem hz
  simp [shareL]
  exact partV_bd _ _ _ _
theorem SomeOf.len {n o r : Nat} {data : List Int} {ls : List Sh} (h : SomeOf n data o r ls) : ls.length ≤ o := by
  have h1 : (ls.map (·.1)).length ≤ ((List.range o).map fun (k : Nat) => (k : Int)).length := by
    refine List.Nodup.length_le_of_subset h.once ?_
    intro x hx
    obtain ⟨t, ht, rfl⟩ := List.mem_map.1 hx
    obtain ⟨k, hk, rfl⟩ := h.of t ht
    exact List.mem_map.2 ⟨k, List.mem_range.2 hk, rfl⟩
  simpa using h1
theorem SomeOf.checkL {n o s : Nat} {data : List Int} {ls : List Sh} (hp : planV n o s = 0) (h : SomeOf n data o (rowsN n s) ls) : checkL n o s [] ls = 0 :=
  checkL_zero (h.one hp) (by simpa [List.Nodup] using h.once)
theorem SomeOf.checks {n o s : Nat} {data : List Int} {ls : List Sh} (hp : planV n o s = 0) (h : SomeOf n data o (rowsN n s) ls) (hn : n ≤ ls.length) : checksL n o s ls = 0 := by
  obtain ⟨p1, p2, p3, p4, p5, p6⟩ := planV_bd hp
  have hl := h.len
  unfold checksL
  rw [if_neg (by simpa using hp), if_neg (by omega), if_neg (by simpa using h.checkL hp), if_neg (by omega)]
theorem SomeOf.short {n o s : Nat} {data : List Int} {ls : List Sh} (hp : planV n o s = 0) (h : SomeOf n data o (rowsN n s) ls) (hn : ls.length < n) : checksL n o s ls = 7 := by
  obtain ⟨p1, p2, p3, p4, p5, p6⟩ := planV_bd hp
  have hl := h.len
  unfold checksL
  rw [if_neg (by simpa using hp), if_neg (by omega), if_neg (by simpa using h.checkL hp), if_pos (by omega)]
theorem SomeOf.right {n o s : Nat} {data : List Int} {ls : List Sh} (hp : planV n o s = 0) (h : SomeOf n data o (rowsN n s) ls) (hn : n ≤ ls.length) : Right n o s ls := by
  obtain ⟨p1, p2, p3, p4, p5, p6⟩ := planV_bd hp
  have hl := h.len
  exact right_of hp hn (by omega) (h.checkL hp)

theorem xsL_get {n : Nat} {ls : List Sh} {m : Nat} {p : Int} (h : (xsL n ls)[m]? = some p) (i : Nat) : ∃ t, t ∈ ls ∧ ls[m]? = some t ∧ p = t.1 ∧ (ysL n ls i)[m]? = some (t.2.getD i 0) := by
  unfold xsL at h
  rw [List.getElem?_map, Option.map_eq_some_iff] at h
  obtain ⟨t, ht, rfl⟩ := h
  refine ⟨t, List.mem_of_mem_take (List.mem_of_getElem? ht), ?_, rfl, ?_⟩
  · rw [List.getElem?_take] at ht
    split at ht
    · exact ht
    · cases ht
  · unfold ysL
    rw [List.getElem?_map, ht]
    rfl
/-- The curve through any of the shares is the content's. -/
theorem SomeOf.curve {n o s : Nat} {data : List Int} {ls : List Sh} (hp : planV n o s = 0) (h : SomeOf n data o (rowsN n s) ls) (hn : n ≤ ls.length) {i : Nat} (hi : i < rowsN n s) (p : Int) :
    atV (xsL n ls) (ysL n ls i) p = atV (placesL n) (rowL n data i) p := by
  obtain ⟨p1, p2, p3, p4, p5, p6⟩ := planV_bd hp
  have hR := (h.right hp hn).pts i
  have hxl : (xsL n ls).length = n := by simp [xsL]; omega
  refine (atV_uniq hR (f := atV (placesL n) (rowL n data i)) ?_ (fun p => atV_bd _ _ _) ?_ p).symm
  · have := atV_deg (x := placesL n) (y := rowL n data i) (by rw [placesL_len]; omega)
    rw [hxl]
    rwa [placesL_len] at this
  · intro m q v hq hv
    obtain ⟨t, ht, _, rfl, hy⟩ := xsL_get hq i
    rw [hv] at hy
    cases hy
    obtain ⟨k, hk, rfl⟩ := h.of t ht
    rw [List.getD_eq_getElem?_getD, shareL_get _ _ _ hi]
    rfl
theorem dataL_rows {n : Nat} {ls : List Sh} {data : List Int} : ∀ r, (∀ i, i < r → outL n ls i = rowL n data i) → dataL n ls r = ((List.range r).map (rowL n data)).flatten := by
  intro r h
  unfold dataL
  congr 1
  apply List.map_congr_left
  intro i hi
  exact h i (List.mem_range.1 hi)
/-- The rows of a content, one behind the other. -/
theorem rows_get (n : Nat) (data : List Int) (hn : 1 ≤ n) : ∀ (r i : Nat), i < r * n → ((List.range r).map (rowL n data)).flatten[i]? = some (data.getD i 0)
  | 0, i, h => by simp at h
  | r + 1, i, h => by
    rw [List.range_succ, List.map_append, List.flatten_append]
    have hlen : ((List.range r).map (rowL n data)).flatten.length = r * n := by
      clear h
      induction r with
      | zero => simp
      | succ r ih =>
        rw [List.range_succ, List.map_append, List.flatten_append, List.length_append, ih]
        simp [rowL_len, Nat.add_mul]
    by_cases hi : i < r * n
    · rw [List.getElem?_append_left (by omega), rows_get n data hn r i hi]
    · rw [List.getElem?_append_right (by omega), hlen]
      have hlt : i - r * n < n := by rw [Nat.add_mul] at h; omega
      simp only [List.map_cons, List.map_nil, List.flatten_cons, List.flatten_nil, List.append_nil]
      rw [rowL_get _ _ hlt]
      congr 2
      omega
theorem rows_len (n : Nat) (data : List Int) (r : Nat) : ((List.range r).map (rowL n data)).flatten.length = r * n := by
  induction r with
  | zero => simp
  | succ r ih =>
    rw [List.range_succ, List.map_append, List.flatten_append, List.length_append, ih]
    simp [rowL_len, Nat.add_mul]
theorem rows_data {n s : Nat} {data : List Int} (hn1 : 1 ≤ n) (hn2 : n ≤ 4) (hs1 : 1 ≤ s) (hs2 : s ≤ 24) (hl : data.length = s) :
    (((List.range (rowsN n s)).map (rowL n data)).flatten).take s = data ∧ hasNot ((((List.range (rowsN n s)).map (rowL n data)).flatten).drop s) = false := by
  obtain ⟨r1, r2, r3⟩ := rowsN_bd hn1 hn2 hs1 hs2
  constructor
  · apply List.ext_getElem?
    intro i
    rw [List.getElem?_take]
    by_cases hi : i < s
    · rw [if_pos hi, rows_get n data hn1 _ i (by omega), List.getD_eq_getElem?_getD, List.getElem?_eq_getElem (by omega)]
      rfl
    · rw [if_neg hi, List.getElem?_eq_none (by omega)]
  · unfold hasNot
    rw [List.any_eq_false]
    intro z hz
    obtain ⟨i, hi⟩ := List.getElem?_of_mem hz
    rw [List.getElem?_drop] at hi
    have hlt := (List.getElem?_eq_some_iff.1 hi).1
    rw [rows_len] at hlt
    rw [rows_get n data hn1 _ _ hlt, List.getD_eq_getElem?_getD, List.getElem?_eq_none (by omega)] at hi
    cases hi
    simp
theorem SomeOf.joins {n o s : Nat} {data : List Int} {ls : List Sh} (hp : planV n o s = 0) (hl : data.length = s) (hd : ∀ z ∈ data, 0 ≤ z ∧ z < 31) (h : SomeOf n data o (rowsN n s) ls) (hn : n ≤ ls.length) :
    joinE n o s ls = 0 ∧ joinC n o s ls = data := by
  obtain ⟨p1, p2, p3, p4, p5, p6⟩ := planV_bd hp
  have hout : ∀ i, i < rowsN n s → outL n ls i = rowL n data i := by
    intro i hi
    apply List.ext_getElem?
    intro j
    by_cases hj : j < n
    · rw [rowL_get _ _ hj]
      unfold outL outK
      rw [List.getElem?_map, List.getElem?_range hj]
      simp only [Option.map_some]
      rw [h.curve hp hn hi]
      congr 1
      exact partV_place (by omega) (by omega) hd i hj
    · rw [List.getElem?_eq_none (by unfold outL; rw [outK_len]; omega), List.getElem?_eq_none (by rw [rowL_len]; omega)]
  have hrows := dataL_rows (rowsN n s) hout
  obtain ⟨hd1, hd2⟩ := rows_data (n := n) (s := s) (data := data) (by omega) (by omega) (by omega) (by omega) hl
  have htorn : tornsL n ls (rowsN n s) = false := by
    unfold tornsL
    rw [List.any_eq_false]
    intro i hi
    have hi := List.mem_range.1 hi
    unfold tornL
    rw [Bool.not_eq_true, List.any_eq_false]
    intro t ht
    obtain ⟨k, hk, rfl⟩ := h.of t (List.mem_of_mem_drop ht)
    rw [h.curve hp hn hi, List.getD_eq_getElem?_getD, shareL_get _ _ _ hi]
    simp [shareL, partV]
  have hE : joinE n o s ls = 0 := by
    unfold joinE
    rw [if_neg (by simpa using h.checks hp hn), htorn, if_neg (by simp), hrows, hd2, if_neg (by simp)]
  exact ⟨hE, by rw [joinC_ok hE]; unfold joinD; rw [hrows, hd1]⟩

theorem dataL_get (n : Nat) (ls : List Sh) {i j : Nat} (hj : j < n) : ∀ r, i < r → (dataL n ls r)[i * n + j]? = some (atV (xsL n ls) (ysL n ls i) (j : Int))
  | 0, h => by omega
  | r + 1, h => by
    rw [dataL_step]
    by_cases hi : i < r
    · have h1 : i * n + j < r * n := by
        have : (i + 1) * n ≤ r * n := Nat.mul_le_mul_right _ hi
        rw [Nat.add_mul, Nat.one_mul] at this
        omega
      rw [List.getElem?_append_left (by rw [dataL_len]; exact h1)]
      exact dataL_get n ls hj r hi
    · obtain rfl : i = r := by omega
      rw [List.getElem?_append_right (by rw [dataL_len]; omega), dataL_len, show i * n + j - i * n = j by omega]
      unfold outK
      rw [List.getElem?_map, List.getElem?_range hj]
      rfl
theorem someOf_perm {n o r : Nat} {data : List Int} {ps rest : List Sh} (h : (ps ++ rest).Perm (sharesL n data o r)) : SomeOf n data o r ps := by
  refine ⟨fun t ht => ?_, ?_⟩
  · have hm : t ∈ sharesL n data o r := h.subset (List.mem_append_left _ ht)
    obtain ⟨k, hk, rfl⟩ := List.mem_map.1 hm
    exact ⟨k, List.mem_range.1 hk, rfl⟩
  · have h1 : ((sharesL n data o r).map (·.1)).Nodup := by
      have e : (sharesL n data o r).map (·.1) = (List.range o).map fun (k : Nat) => (k : Int) := by simp [sharesL, shareL, Function.comp_def]
      rw [e]
      refine List.pairwise_map.2 (List.Pairwise.imp ?_ List.pairwise_lt_range)
      intro a b hab e
      omega
    have h2 := (h.map (·.1)).nodup_iff.2 h1
    rw [List.map_append] at h2
    exact (List.nodup_append.1 h2).1
theorem perm_len {n o r : Nat} {data : List Int} {ps rest : List Sh} (h : (ps ++ rest).Perm (sharesL n data o r)) : ps.length + rest.length = o := by
  have := h.length_eq
  rwa [List.length_append, sharesL_len] at this
end Go.Proofs.Ytnpdojjffbhalaa
