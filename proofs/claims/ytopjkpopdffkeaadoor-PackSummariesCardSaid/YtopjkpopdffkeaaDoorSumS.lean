/- Size and blocks of a partial segment: the plain numbers. -/
import Derived.Test.YtopjkpopdffkeaaDoorFi
set_option linter.unusedVariables false
set_option linter.unusedSimpArgs false
namespace Go.Proofs.YtopjkpopdffkeaaDoor

def sumN : List Nat → Nat
  | [] => 0
  | x :: xs => x + sumN xs
theorem sumN_app : ∀ a b : List Nat, sumN (a ++ b) = sumN a + sumN b
  | [], b => by simp [sumN]
  | x :: a, b => by simp [sumN, sumN_app a b]; omega
/-- Blocks of files. -/
def lsN (fs : List FI) : Nat := sumN (fs.map fun f => f.ls.length)
def blkN (fs : List FI) (is : List Int) : Nat := 2 + is.length + lsN fs
def szN (fs : List FI) (is : List Int) : Nat := 10 + is.length + (4 * fs.length + 2 * lsN fs)
theorem lsN_app (a b : List FI) : lsN (a ++ b) = lsN a + lsN b := by simp [lsN, sumN_app]
theorem lsN_take {fs : List FI} {j : Nat} {f : FI} (h : fs[j]? = some f) : lsN (fs.take (j + 1)) = lsN (fs.take j) + f.ls.length := by
  rw [List.take_add_one, h, lsN_app]; simp [lsN, sumN]
theorem lsN_le (fs : List FI) (j : Nat) : lsN (fs.take j) ≤ lsN fs := by
  have h := lsN_app (fs.take j) (fs.drop j)
  rw [List.take_append_drop] at h
  omega
theorem lsN_mem {fs : List FI} {j : Nat} {f : FI} (h : fs[j]? = some f) : f.ls.length ≤ lsN fs := by
  have := lsN_take h
  have := lsN_le fs (j + 1)
  omega
end Go.Proofs.YtopjkpopdffkeaaDoor
