/-
  A script, in plain Lean.
-/
import Derived.Test.YtnidbghgadnjeaaGreatHap
import Derived.Test.YtnidbghgadnjeaaGreatErrBd
namespace Go.Proofs.YtnidbghgadnjeaaGreat

/-- One happening more: the mesh, and what each said. -/
def runOne (st : Me × List Int) (x : Hp) : Me × List Int := (if doE st.1 x = 0 then doC st.1 x else st.1, st.2 ++ [doE st.1 x])
def runL (l : List Hp) (st : Me × List Int) : Me × List Int := l.foldl runOne st
theorem runL_step (st : Me × List Int) {l : List Hp} {k : Nat} {x : Hp} (h : l[k]? = some x) : runL (l.take (k + 1)) st = runOne (runL (l.take k) st) x := by
  unfold runL
  rw [take_get h, List.foldl_append]
  rfl
theorem runL_len (l : List Hp) : ∀ st, (runL l st).2.length = st.2.length + l.length := by
  induction l with
  | nil => intro st; rfl
  | cons x l ih =>
    intro st
    show (runL l (runOne st x)).2.length = _
    rw [ih]
    unfold runOne
    simp
    omega
theorem runL_append (l r : List Hp) (st : Me × List Int) : runL (l ++ r) st = runL r (runL l st) := by
  unfold runL
  rw [List.foldl_append]
theorem runL_said (l : List Hp) : ∀ st, runL l st = ((runL l (st.1, [])).1, st.2 ++ (runL l (st.1, [])).2) := by
  induction l with
  | nil => intro st; simp [runL]
  | cons x l ih =>
    intro st
    show runL l (runOne st x) = ((runL l (runOne (st.1, []) x)).1, st.2 ++ (runL l (runOne (st.1, []) x)).2)
    rw [ih (runOne st x), ih (runOne (st.1, []) x)]
    unfold runOne
    simp
def runE (m : Me) (l : List Hp) : Int := if meshV m ≠ 0 then meshV m else if 100 < l.length then 1 else 0
def runM (m : Me) (l : List Hp) : Me := if runE m l = 0 then (runL l (m, [])).1 else ([], [])
def runS (m : Me) (l : List Hp) : List Int := if runE m l = 0 then (runL l (m, [])).2 else []
end Go.Proofs.YtnidbghgadnjeaaGreat
