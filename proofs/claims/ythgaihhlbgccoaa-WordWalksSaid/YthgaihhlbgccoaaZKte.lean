import Derived.Test.YthgaihhlbgccoaaZF2
/- Tables: which residues are a field, seen by the kernel. Printed by kertab.py. -/
namespace Go.Proofs.Ythgaihhlbgccoaa.Ker
set_option maxRecDepth 100000
def roots : List Nat := [0, 0, 1, 2, 0, 2, 0, 3, 0, 0, 0, 2, 0, 2, 0, 0, 0, 3, 0, 2, 0, 0, 0, 5, 0, 0, 0, 0, 0, 2, 0, 3, 0, 0, 0, 0, 0, 2, 0, 0, 0, 6, 0, 3, 0, 0, 0, 5, 0, 0, 0, 0, 0, 2, 0, 0, 0, 0, 0, 2, 0, 2, 0, 0, 0, 0, 0, 2, 0, 0, 0, 7, 0, 5, 0, 0, 0, 0, 0, 3, 0, 0, 0, 2, 0, 0, 0, 0, 0, 3, 0, 0, 0, 0, 0, 0, 0, 5, 0, 0, 0, 2, 0, 5, 0, 0, 0, 2, 0, 6, 0, 0, 0, 3, 0, 0, 0, 0, 0, 0, 0, 0, 0, 0, 0, 0, 0, 3, 0, 0, 0, 2, 0, 0, 0, 0, 0, 3, 0, 2, 0, 0, 0, 0, 0, 0, 0, 0, 0, 2, 0, 6, 0, 0, 0, 0, 0, 5, 0, 0, 0, 0, 0, 2, 0, 0, 0, 5, 0, 0, 0, 0, 0, 2, 0, 0, 0, 0, 0, 2, 0, 2, 0, 0, 0, 0, 0, 0, 0, 0, 0, 19, 0, 5, 0, 0, 0, 2, 0, 3, 0, 0, 0, 0, 0, 0, 0, 0, 0, 0, 0, 2, 0, 0, 0, 0, 0, 0, 0, 0, 0, 0, 0, 3, 0, 0, 0, 2, 0, 6, 0, 0, 0, 3, 0, 0, 0, 0, 0, 7, 0, 7, 0, 0, 0, 0, 0, 0, 0, 0, 0, 6, 0, 0, 0, 0, 0]
theorem tprimes : ∀ p : Fin 257, 2 ≤ p.val → Fo.pr p.val = true → pw p.val 1 [0] (digsT p.val 1 (roots.getD p.val 0 : Nat)) (p.val - 2) (roots.getD p.val 0) = true ∧ 1 ≤ roots.getD p.val 0 ∧ roots.getD p.val 0 < p.val := by decide +kernel
end Go.Proofs.Ythgaihhlbgccoaa.Ker
