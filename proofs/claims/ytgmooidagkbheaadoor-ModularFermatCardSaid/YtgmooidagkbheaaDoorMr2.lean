/-
  The kernel's runs over the table: the rows, the gaps between them, the search. Plain numbers; no program in sight.
-/
import Derived.Test.YtgmooidagkbheaaDoorMr1
namespace Mr
theorem row0 : lp rowB 1 12 0 = true := by decide +kernel
theorem row1 : lp rowB 1 11 4096 = true := by decide +kernel
theorem row2 : lp rowB 1 8 6144 = true := by decide +kernel
theorem row3 : lp rowB 1 7 6400 = true := by decide +kernel
theorem row4 : lp rowB 1 3 6528 = true := by decide +kernel
theorem row5 : lp rowB 1 0 6536 = true := by decide +kernel
theorem gap0 : lp gapB 1 12 0 = true := by decide +kernel
theorem gap1 : lp gapB 1 11 4096 = true := by decide +kernel
theorem gap2 : lp gapB 1 8 6144 = true := by decide +kernel
theorem gap3 : lp gapB 1 7 6400 = true := by decide +kernel
theorem gap4 : lp gapB 1 3 6528 = true := by decide +kernel
theorem tail0 : lq (fun j => npB (Nat.add 65522 j)) 14 = true := by decide +kernel
theorem en0 : lp enB 1 4 163 = true := by decide +kernel
theorem en1 : lp enB 1 5 179 = true := by decide +kernel
theorem en2 : lp enB 1 6 211 = true := by decide +kernel
theorem en3 : lp enB 1 7 275 = true := by decide +kernel
theorem en4 : lp enB 1 8 403 = true := by decide +kernel
theorem en5 : lp enB 1 9 659 = true := by decide +kernel
theorem en6 : lp enB 1 10 1171 = true := by decide +kernel
theorem en7 : lp enB 1 11 2195 = true := by decide +kernel
theorem en8 : lp enB 1 11 4243 = true := by decide +kernel
theorem en9 : lp enB 1 7 6291 = true := by decide +kernel
theorem en10 : lp enB 1 6 6419 = true := by decide +kernel
theorem en11 : lp enB 1 5 6483 = true := by decide +kernel
theorem en12 : lp enB 1 4 6515 = true := by decide +kernel
theorem en13 : lp enB 1 2 6531 = true := by decide +kernel
theorem en14 : lp enB 1 1 6535 = true := by decide +kernel
theorem root0 : lp rootB 1 0 0 = true := by decide +kernel
theorem root1 : lp rootB 1 4 1 = true := by decide +kernel
theorem root2 : lp rootB 1 4 17 = true := by decide +kernel
theorem root3 : lp rootB 1 5 33 = true := by decide +kernel
theorem root4 : lp rootB 1 5 65 = true := by decide +kernel
theorem root5 : lp rootB 1 6 97 = true := by decide +kernel
theorem root6 : lp rootB 1 1 161 = true := by decide +kernel
end Mr
