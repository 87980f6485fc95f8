/-
  The walk of AuditSays: who is to blame, and how many shares lack, is told as the reference tells it.
-/
import Derived.Test.YtnidbghgadnjeaaGreatExtra
import Derived.Test.YtnidbghgadnjeaaGreatBlamedIn
import Derived.Test.YtnidbghgadnjeaaGreatLack
import Derived.Test.YtnidbghgadnjeaaGreatJudged
import Derived.Test.YtnidbghgadnjeaaGreatReadMesh
namespace Go.Proofs.YtnidbghgadnjeaaGreat
open Go.RowKit

set_option linter.unusedSimpArgs false in
set_option maxRecDepth 100000 in
set_option maxHeartbeats 4000000 in
theorem AuditSays_walk (vm : Value) (m : Me) (vn : Value) (v : Int) (W : World) (hm : IsMesh W vm m) (hn : IsInt vn v) :
    Calls Tryz.prog 6 #[vm, vn] W fun e w' => e = .returned (.bool true) ∧ Below W.heap.size W w' := by
  obtain ⟨vb, u, rfl, hb, hu⟩ := hm
  obtain ⟨rfl, _, _⟩ := hn
  obtain ⟨b, ps⟩ := m
  simp only at hb hu
  obtain ⟨a, c, rfl, _⟩ := hb.opened
  obtain ⟨a', c', rfl, _⟩ := hu.opened
  have S0 := (Since.refl W).alloc (.cells #[.slice a b.length c, .slice a' ps.length c'] 35)
  have hb0 := hb.stays RVer.stays S0.below
  have hu0 := hu.stays RPeer.stays S0.below
  have c0 : (W.alloc (.cells #[.slice a b.length c, .slice a' ps.length c'] 35)).cell? ⟨W.heap.size, 0, none⟩ = some (.slice a b.length c) := by go_simp
  have c1 : (W.alloc (.cells #[.slice a b.length c, .slice a' ps.length c'] 35)).cell? ⟨W.heap.size, 1, none⟩ = some (.slice a' ps.length c') := by go_simp
  clear hb hu
  go_enter Tryz.func6, Tryz.ntmps6
  go_upto_region 1 with fail
  generalize W.alloc (.cells #[.slice a b.length c, .slice a' ps.length c'] 35) = w0 at *
  obtain ⟨B, hB⟩ : ∃ B, B = W.heap.size := ⟨_, rfl⟩
  rw [← hB] at c0 c1 ⊢
  clear hB
  have HF : Hid (∀ w', Since w0.heap.size w0 w' → w'.cell? ⟨B, 0, none⟩ = some (.slice a b.length c) ∧ w'.cell? ⟨B, 1, none⟩ = some (.slice a' ps.length c') ∧ IsVers w' (.slice a b.length c) b ∧ IsPeers w' (.slice a' ps.length c') ps) := Lib.hid (fun w' q => ⟨below_cell q.below c0, below_cell q.below c1, hb0.stays RVer.stays q.below, hu0.stays RPeer.stays q.below⟩)
  obtain ⟨E, hE⟩ : ∃ E, E = blamedE (b, ps) v := ⟨_, rfl⟩
  obtain ⟨L, hL⟩ : ∃ L, L = blamedC (b, ps) v := ⟨_, rfl⟩
  obtain ⟨K, hK⟩ : ∃ K, K = lackV (b, ps) v := ⟨_, rfl⟩
  obtain ⟨F, hF⟩ : ∃ F, F = readyE (b, ps) v := ⟨_, rfl⟩
  have HE := Lib.hid hE
  have HL := Lib.hid hL
  have HK := Lib.hid hK
  have HFF := Lib.hid hF
  clear hE hL hK hF
  go_upto_region 2 with (go_at_call 25; go_fit (Blamed_any _ _ b ps v w0 hb0 hu0); rintro e w1 ⟨⟨v1, rfl, hi1, _⟩, hb1⟩; rw [← HE.out]; obtain ⟨a1, m1, rfl, _⟩ := hi1.opened)
  rw [← HL.out] at hi1 ⊢
  have T1 := (Since.refl w0).step hb1
  have H1 := Lib.hid hi1
  clear c0 c1 hb0 hu0 hi1 hb1
  obtain ⟨c0, c1, hb1, hu1⟩ := HF.out w1 T1
  go_upto_region 3 with (go_at_call 26; go_fit (Lacking_any _ b _ ps v w1 hb1 hu1); rintro e w2 ⟨rfl, hw2⟩; rw [← HK.out, ← HFF.out])
  have T2 := T1.step hw2
  have H2 := Lib.hid (H1.out.stays hw2)
  clear c0 c1 hb1 hu1 hw2
  obtain ⟨c0, c1, hb2, hu2⟩ := HF.out w2 T2
  go_upto_region 4 with (go_at_call 27; go_fit (BlamedIn_any _ _ b ps v w2 hb2 hu2); rintro e w3 ⟨⟨v3, rfl, hi3⟩, hw3⟩; rw [← HE.out]; obtain ⟨a3, m3, rfl, _⟩ := hi3.opened)
  rw [← HL.out] at hi3 ⊢
  have T3 := T2.step hw3
  have H3 := Lib.hid (H2.out.stays hw3)
  have G3 := Lib.hid hi3
  clear c0 c1 hb2 hu2 hi3 hw3
  obtain ⟨c0, c1, hb3, hu3⟩ := HF.out w3 T3
  go_upto_region 5 with (go_at_call 28; go_fit (LackingIn_any _ _ b ps v w3 hb3 hu3); rintro e w4 ⟨rfl, hw4⟩; rw [← HK.out, ← HFF.out])
  have T4 := T3.step hw4
  have H4 := Lib.hid (H3.out.stays hw4)
  have G4 := Lib.hid (G3.out.stays hw4)
  have HQ := Lib.hid (show eqInts L L = true by simp [eqInts])
  have z1 : (E == E) = true := by simp
  have z2 : (F == F) = true := by simp
  have z3 : (K == K) = true := by simp
  clear c0 c1 hb3 hu3 hw4
  go_wp2_with (first
    | (go_at_call 29; go_fit (judged_any w4); rintro e w5 ⟨rfl, hw5⟩; have p5 := (Since.refl w4).step hw5)
    | (go_at_call 18; go_fit (Equal_ints _ _ L L w5 (H4.out.stays p5.below) (G4.out.stays p5.below)); rintro e w6 ⟨rfl, hw6⟩; rw [HQ.out]; have p6 := p5.step hw6))
  go_ret
  exact ⟨rfl, (S0.step (T4.step p6.below).below).below⟩
end Go.Proofs.YtnidbghgadnjeaaGreat
