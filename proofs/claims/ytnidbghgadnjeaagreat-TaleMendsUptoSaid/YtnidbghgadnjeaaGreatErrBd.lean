/-
  What is told when something is wrong is a small number.
-/
import Derived.Test.YtnidbghgadnjeaaGreatDoMath
import Derived.Test.YtnidbghgadnjeaaGreatRepairLaw
namespace Go.Proofs.YtnidbghgadnjeaaGreat

def Sm (z : Int) : Prop := 0 ≤ z ∧ z ≤ 9
theorem Sm.i64 {z : Int} (h : Sm z) : I64 z := ⟨by unfold Sm at h; omega, by unfold Sm at h; omega⟩
theorem sm_ite {p : Prop} [Decidable p] {a b : Int} (ha : Sm a) (hb : Sm b) : Sm (if p then a else b) := by split <;> assumption
theorem sm0 : Sm 0 := ⟨by decide, by decide⟩
theorem sm1 : Sm 1 := ⟨by decide, by decide⟩
theorem sm2 : Sm 2 := ⟨by decide, by decide⟩
theorem sm3 : Sm 3 := ⟨by decide, by decide⟩
theorem sm4 : Sm 4 := ⟨by decide, by decide⟩
theorem sm5 : Sm 5 := ⟨by decide, by decide⟩
theorem sm6 : Sm 6 := ⟨by decide, by decide⟩
theorem sm7 : Sm 7 := ⟨by decide, by decide⟩
theorem sm8 : Sm 8 := ⟨by decide, by decide⟩
theorem sm9 : Sm 9 := ⟨by decide, by decide⟩
theorem planV_sm (n o s : Int) : Sm (planV n o s) := sm_ite sm2 sm0
theorem allV_sm : ∀ l, Sm (allV l)
  | [] => sm0
  | z :: l => by unfold allV; exact sm_ite (allV_sm l) sm2
theorem oneV_sm (n o s N : Int) (l : List Int) : Sm (oneV n o s N l) := sm_ite (planV_sm _ _ _) (sm_ite sm4 (sm_ite sm3 (allV_sm l)))
theorem splitE_sm (n o s : Int) (l : List Int) : Sm (splitE n o s l) := sm_ite (planV_sm _ _ _) (sm_ite sm3 (allV_sm l))
theorem parsV_sm (k : Int) : ∀ l last, Sm (parsV k last l)
  | [], _ => sm0
  | p :: r, last => by unfold parsV; exact sm_ite sm4 (sm_ite sm5 (parsV_sm k r p))
theorem verV_sm (k : Int) (v : Ver) : Sm (verV k v) := sm_ite (parsV_sm _ _ _) (planV_sm _ _ _)
theorem versV_sm : ∀ (b : List Ver) (k : Nat), Sm (versV k b)
  | [], _ => sm0
  | v :: r, k => by unfold versV; exact sm_ite (verV_sm _ _) (versV_sm r (k + 1))
theorem bookV_sm (b : List Ver) : Sm (bookV b) := sm_ite sm1 (versV_sm b 0)
theorem keptsV_sm (b : List Ver) : ∀ l last, Sm (keptsV b last l)
  | [], _ => sm0
  | x :: r, last => by unfold keptsV; exact sm_ite sm4 (sm_ite sm5 (sm_ite (oneV_sm _ _ _ _ _) (keptsV_sm b r x.1)))
theorem peerV_sm (b : List Ver) (p : Pr) : Sm (peerV b p) := sm_ite (bookV_sm b) (sm_ite sm2 (sm_ite sm8 (keptsV_sm b _ _)))
theorem peersV_sm (b : List Ver) : ∀ l, Sm (peersV b l)
  | [] => sm0
  | p :: r => by unfold peersV; exact sm_ite (peerV_sm b p) (peersV_sm b r)
theorem placeV_sm (b : List Ver) (l : List Pr) : Sm (placeV b l) := sm_ite (bookV_sm b) (sm_ite sm1 (peersV_sm b l))
theorem meshV_sm (m : Me) : Sm (meshV m) := placeV_sm _ _
theorem addVE_sm (b : List Ver) (v : Ver) : Sm (addVE b v) := sm_ite (bookV_sm b) (sm_ite sm1 (bookV_sm _))
theorem keepE_sm (b : List Ver) (p : Pr) (k : Kp) : Sm (keepE b p k) := sm_ite (peerV_sm b p) (sm_ite sm8 (sm_ite sm5 (peerV_sm b _)))
theorem putL_sm (b : List Ver) (v : Int) (ss : List Sh) : ∀ cs i ps, Sm (putL b v ss cs i ps).1
  | [], _, _ => sm0
  | c :: cs, i, ps => by
    unfold putL
    split
    · exact keepE_sm _ _ _
    · exact putL_sm b v ss cs _ _
theorem forE_sm (b : List Ver) (l : List Pr) (v n : Int) : Sm (forE b l v n) := sm_ite (placeV_sm b l) (sm_ite sm2 (sm_ite sm7 sm0))
theorem putE_sm (m : Me) (v : Int) (ss : List Sh) : Sm (putE m v ss) := sm_ite (forE_sm _ _ _ _) (putL_sm _ _ _ _ _ _)
theorem saveE_sm (m : Me) (d p : List Int) (n o : Int) : Sm (saveE m d p n o) := sm_ite (meshV_sm m) (sm_ite (splitE_sm _ _ _ _) (sm_ite (addVE_sm _ _) (putE_sm _ _ _)))
theorem readyE_sm (m : Me) (v : Int) : Sm (readyE m v) := sm_ite (meshV_sm m) (sm_ite sm4 sm0)
theorem checkL_sm (n o s : Int) : ∀ r seen, Sm (checkL n o s seen r)
  | [], _ => sm0
  | t :: r, seen => by unfold checkL; exact sm_ite (oneV_sm _ _ _ _ _) (sm_ite sm5 (checkL_sm n o s r _))
theorem checksL_sm (n o s : Int) (l : List Sh) : Sm (checksL n o s l) := sm_ite (planV_sm _ _ _) (sm_ite sm1 (sm_ite (checkL_sm _ _ _ _ _) (sm_ite sm7 sm0)))
theorem mostE_sm (n o s : Int) (l : List Sh) : Sm (mostE n o s l) := sm_ite (checksL_sm _ _ _ _) (sm_ite sm9 sm0)
theorem restE_sm (m : Me) (v : Int) : Sm (restE m v) := sm_ite (readyE_sm m v) (mostE_sm _ _ _ _)
theorem repairE_sm (m : Me) (v : Int) : Sm (repairE m v) := sm_ite (restE_sm m v) (sm_ite (splitE_sm _ _ _ _) (putE_sm _ _ _))
theorem bendE_sm (l : List Kp) (k : Int) : Sm (bendE l k) := sm_ite sm4 sm0
theorem forgetE_sm (m : Me) (n : Int) : Sm (forgetE m n) := sm_ite sm4 (sm_ite sm0 sm6)
theorem doE_sm (m : Me) (x : Hp) : Sm (doE m x) := sm_ite (meshV_sm m) (sm_ite (saveE_sm _ _ _ _ _) (sm_ite (repairE_sm _ _) (sm_ite (forgetE_sm _ _) (sm_ite sm3 (sm_ite sm4 (sm_ite (bendE_sm _ _) (sm_ite sm0 (sm_ite sm6 sm0))))))))
end Go.Proofs.YtnidbghgadnjeaaGreat
