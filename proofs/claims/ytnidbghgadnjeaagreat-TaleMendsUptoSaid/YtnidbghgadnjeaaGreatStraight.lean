/-
  The law's straight: a script without bends.
-/
import Derived.Test.YtnidbghgadnjeaaGreatHapDel
import Derived.Test.YtnidbghgadnjeaaGreatTaleGood
namespace Go.Proofs.YtnidbghgadnjeaaGreat
open Go.RowKit

set_option maxRecDepth 100000 in
theorem BendQ_any (u : Value) (x : Hp) (W : World) (hx : IsHap W u x) :
    Calls Tryz.prog 45 #[u] W fun e w' => e = .returned (.bool (decide (x.1 = 5))) ∧ Below W.heap.size W w' := by
  obtain ⟨vd, vp, rfl, hd, hp, _⟩ := hx
  obtain ⟨a, c, rfl, _⟩ := hd.opened
  obtain ⟨a', c', rfl, _⟩ := hp.opened
  obtain ⟨k, n, m, dl, pl, ne, o⟩ := x
  have S0 := (Since.refl W).alloc (.cells #[.int .i64 k, .int .i64 n, .int .i64 m, .slice a dl.length c, .slice a' pl.length c', .int .i64 ne, .int .i64 o] 50)
  clear hd hp
  go_enter Tryz.func45, Tryz.ntmps45
  go_wp2_with fail
  go_ret
  exact ⟨ret_bool rfl, S0.below⟩

set_option maxRecDepth 100000 in
set_option maxHeartbeats 2000000 in
theorem straight_any (v : Value) (l : List Hp) (W : World) (hv : IsHaps W v l) (hl : l.length ≤ 2000000) :
    Calls Tryz.prog 11 #[v, .int .i64 60] W fun e w' => (∃ v', e = .returned v' ∧ IsHaps w' v' (strL l)) ∧ Below W.heap.size W w' := by
  obtain ⟨a, c, rfl, _⟩ := hv.opened
  have HC := Lib.hid (CloneHaps_any _ l W W (Dirty.refl _ _) hv hl)
  clear hv
  go_enter Tryz.func11, Tryz.ntmps11
  go_upto_region 2 with (first
    | (go_at_call 44; go_fit HC.out; rintro e w1 ⟨⟨v1, rfl, ho1⟩, hb1⟩; have HDF := Lib.hid (DeleteFuncHaps_any 45 (fun _ _ => rfl) #[] (fun z => decide (z.1 = 5)) _ _ v1 l w1 ho1 (fun u z w h => BendQ_any u z w h)))
    | (go_at_call 43; go_fit HDF.out; rintro e w2 ⟨⟨v2, rfl, ho2⟩, hg2⟩; obtain ⟨a2, c2, rfl, hc2, ⟨hm2, hk2, _⟩, _⟩ := ho2.isRow.opened))
  have S2 := ((Since.refl W).step hb1).grown hg2 (fun j hj => (ho1.lt j hj).1)
  have hi2 := ho2.isRow
  have HST : Hid (strL l = (l.filter fun z => !decide (z.1 = 5)).take 60) := Lib.hid rfl
  generalize (l.filter fun z => !decide (z.1 = 5)) = L at *
  by_cases h60 : L.length ≤ 60
  · have hmin : min (L.length : Int) 60 = (L.length : Int) := by omega
    have HT := Lib.hid (List.take_of_length_le h60)
    have b1 : (L.length : Int) ≤ (c2 : Int) := by omega
    have b2 : (L.length : Int) ≤ 60 := by omega
    have HI := Lib.hid hi2
    clear hi2 ho2 ho1 hg2 hb1
    go_wp2_with fail
    go_ret
    exact ⟨⟨_, rfl, by rw [HST.out, HT.out]; exact HI.out⟩, S2.below⟩
  · have hmin : min (L.length : Int) 60 = 60 := by omega
    have b1 : (60 : Int) ≤ (c2 : Int) := by omega
    have b2 : ¬ (L.length : Int) ≤ 60 := by omega
    have HI := Lib.hid (hi2.take 60 (by omega))
    clear hi2 ho2 ho1 hg2 hb1
    go_wp2_with fail
    go_ret
    exact ⟨⟨_, rfl, by rw [HST.out]; exact HI.out⟩, S2.below⟩
end Go.Proofs.YtnidbghgadnjeaaGreat
