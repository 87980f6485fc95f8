/-
  done, a closed fact: what its script comes to.
-/
import Derived.Test.YtnidbghgadnjeaaGreatRunMath
import Derived.Test.YtnidbghgadnjeaaGreatWovens
namespace Go.Proofs.YtnidbghgadnjeaaGreat

def ofH (k n : Int) : Hp := (k, n, 0, [], [], 0, 0)
def dnL : List Hp := [(1, 0, 0, [1, 2], [], 1, 2), ofH 2 0, ofH 2 0, ofH 6 0, ofH 3 0, ofH 5 2, (1, 0, 0, [3], [0], 1, 1), ofH 7 0, ofH 7 1, ofH 4 1]
def dnM : Me := ([([], 1, 2, 2), ([0], 1, 1, 1)], [(true, 2, [(0, 0, [1, 2])]), (true, 2, []), (true, 2, [(0, 0, [2, 2])])])
def dnS : List Int := [0, 0, 6, 0, 0, 0, 0, 6, 0, 0]
theorem dn_facts : newE [2, 2, 2] = 0 ∧ newC [2, 2, 2] = ([], newP [2, 2, 2]) ∧ runE ([], newP [2, 2, 2]) dnL = 0 ∧ runM ([], newP [2, 2, 2]) dnL = dnM ∧ runS ([], newP [2, 2, 2]) dnL = dnS := by decide +kernel
end Go.Proofs.YtnidbghgadnjeaaGreat
