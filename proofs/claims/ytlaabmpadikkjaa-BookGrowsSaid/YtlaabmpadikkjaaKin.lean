/-
  The walks of package kin.
-/
import Derived.Test.YtlaabmpadikkjaaBook5
import Derived.Test.YtlaabmpadikkjaaDelF
namespace Go.Proofs.Ytlaabmpadikkjaa
open Go.RowKit

theorem Behind_any (v : Value) (b : List Ver) (k : Int) (W : World) (hv : IsVers W v b) :
    Calls Try.prog 38 #[.agg #[v], .int .i64 k] W fun e w' => (∃ v', e = .returned (.tuple #[v', .int .i64 (behindE b k)]) ∧ OwnInts w' 3 W.heap.size v' (behindC b k)) ∧ Below W.heap.size W w' := by
  by_cases h : behindE b k = 0
  · obtain ⟨h0, h1, h2⟩ := behindE_zero h
    obtain ⟨n, rfl⟩ := Int.eq_ofNat_of_zero_le h1
    rw [h, behindC_ok h]
    exact Behind_ok v b n W hv h0 (by omega)
  · rw [behindC_no h]
    exact (Behind_no v b k W hv h).mono fun e w' ⟨he, hb⟩ => ⟨⟨_, he, OwnInts.nil _ _ _⟩, hb⟩

set_option maxHeartbeats 1000000 in
theorem under_any (v : Value) (b : List Ver) (o k : Int) (W : World) (hv : IsVers W v b) :
    Calls Try.prog 66 #[.agg #[v], .int .i64 o, .int .i64 k] W fun e w' => e = .returned (.bool (memB k (behindC b o))) ∧ Below W.heap.size W w' := by
  obtain ⟨a, c, rfl, _⟩ := hv.opened
  have S0 := (Since.refl W).alloc (.cells #[.slice a b.length c] 50)
  have hv0 := hv.stays RVer.stays (below_alloc _ (.cells #[.slice a b.length c] 50))
  clear hv
  go_enter Try.func66, Try.ntmps66
  go_wp2_with fail
  refine (Behind_any _ b o _ hv0).mono ?_
  rintro e w1 ⟨⟨v1, rfl, ho1⟩, hb1⟩
  have S1 := S0.step hb1
  go_wp2_with fail
  refine (Contains_ints _ (behindC b o) k _ ho1.isInts).mono ?_
  rintro e w' ⟨rfl, rfl⟩
  go_wp2_with fail
  go_ret
  exact ⟨rfl, S1.below⟩

set_option maxHeartbeats 1000000 in
theorem CommonNot_any (z : Int) (By : Nat) (vy : Value) (l : List Int) (w : World) (hc : w.cell? ⟨By, 0, none⟩ = some vy) (hl : IsInts w vy l) :
    Calls Try.prog 64 #[.int .i64 z, .pointer (some ⟨By, 0, none⟩)] w fun e w' => e = .returned (.bool (!memB z l)) ∧ Below w.heap.size w w' := by
  obtain ⟨a, c, rfl, _⟩ := hl.opened
  go_enter Try.func64, Try.ntmps64
  go_wp2_with fail
  refine (Contains_ints _ l z _ hl).mono ?_
  rintro e w' ⟨rfl, rfl⟩
  go_wp2_with fail
  go_ret
  exact ⟨rfl, Below.refl _ _⟩

set_option maxHeartbeats 1000000 in
theorem CommonLower_any (o k : Int) (Bk Bb : Nat) (v : Value) (b : List Ver) (w : World) (hk : w.cell? ⟨Bk, 0, none⟩ = some (.int .i64 k)) (hc : w.cell? ⟨Bb, 0, none⟩ = some v) (hv : IsVers w v b) :
    Calls Try.prog 65 #[.int .i64 o, .pointer (some ⟨Bk, 0, none⟩), .pointer (some ⟨Bb, 0, none⟩)] w fun e w' => e = .returned (.bool (lowerV b k o)) ∧ Below w.heap.size w w' := by
  obtain ⟨a, c, rfl, _⟩ := hv.opened
  by_cases h : o = k
  · have hd : (o != k) = false := by simpa using h
    have HL := Lib.hid (show lowerV b k o = false by simp [lowerV, h])
    clear h
    go_enter Try.func65, Try.ntmps65
    go_wp2_with fail
    go_ret
    exact ⟨ret_bool HL.out.symm, Below.refl _ _⟩
  · have hd : (o != k) = true := by simpa using h
    have HL := Lib.hid (show lowerV b k o = memB k (behindC b o) by simp [lowerV, h])
    clear h
    go_enter Try.func65, Try.ntmps65
    go_wp2_with fail
    refine (under_any _ b o k _ hv).mono ?_
    rintro e w1 ⟨rfl, hb1⟩
    go_wp2_with fail
    go_ret
    exact ⟨ret_bool HL.out.symm, hb1⟩

set_option maxHeartbeats 1000000 in
theorem Common_no (v : Value) (b : List Ver) (i j : Int) (W : World) (hv : IsVers W v b) (hE : commonE b i j ≠ 0) :
    Calls Try.prog 31 #[.agg #[v], .int .i64 i, .int .i64 j] W fun e w' => e = .returned (.tuple #[.slice none 0 0, .int .i64 (commonE b i j)]) ∧ Below W.heap.size W w' := by
  obtain ⟨a, c, rfl, _⟩ := hv.opened
  have S0 := (Since.refl W).alloc (.cells #[.slice a b.length c] 50)
  have hv0 := hv.stays RVer.stays (below_alloc _ (.cells #[.slice a b.length c] 50))
  have c0 : (W.alloc (.cells #[.slice a b.length c] 50)).cell? ⟨W.heap.size, 0, none⟩ = some (.slice a b.length c) := by go_simp
  clear hv
  by_cases hi : behindE b i = 0
  · have HE := Lib.hid (commonE_j j hi)
    have hj : behindE b j ≠ 0 := by rw [HE.out] at hE; exact hE
    have HI := Lib.hid hi
    have hne : (behindE b j != 0) = true := by simpa using hj
    clear hi hj hE
    go_enter Try.func31, Try.ntmps31
    go_wp2_with fail
    refine (Behind_any _ b i _ hv0).mono ?_
    rintro e w1 ⟨⟨v1, rfl, ho1⟩, hb1⟩
    rw [HI.out]
    have S1 := S0.step hb1
    have d0 := (hb1.cell (p := ⟨W.heap.size, 0, none⟩) (cell_lt c0)).trans c0
    have hv1 := hv0.stays RVer.stays hb1
    clear c0 ho1
    go_wp2_with fail
    refine (Behind_any _ b j _ hv1).mono ?_
    rintro e w2 ⟨⟨v2, rfl, ho2⟩, hb2⟩
    obtain ⟨a2, c2, rfl, _⟩ := ho2.isInts.opened
    have S2 := S1.step hb2
    clear d0
    go_wp2_with fail
    go_ret2
    exact ⟨ret_nilB HE.out.symm, (S2.alloc _).below⟩
  · have HE := Lib.hid (commonE_i j hi)
    have hne : (behindE b i != 0) = true := by simpa using hi
    clear hi hE
    go_enter Try.func31, Try.ntmps31
    go_wp2_with fail
    refine (Behind_any _ b i _ hv0).mono ?_
    rintro e w1 ⟨⟨v1, rfl, ho1⟩, hb1⟩
    have S1 := S0.step hb1
    clear c0 ho1
    go_wp2_with fail
    go_ret2
    exact ⟨ret_nilB HE.out.symm, S1.below⟩

end Go.Proofs.Ytlaabmpadikkjaa
