/- A verified abstract machine for this program, contracts of its functions, and rows: PAok0. -/
import Derived.Test.YtdpadejfbnbjiaaGreatDoorF
import Derived.Test.YtdpadejfbnbjiaaGreatDoorPA0
import Derived.Test.YtdpadejfbnbjiaaGreatDoorPA1
import Derived.Test.YtdpadejfbnbjiaaGreatDoorPA2
import Derived.Test.YtdpadejfbnbjiaaGreatDoorPA3
import Derived.Test.YtdpadejfbnbjiaaGreatDoorProg
/- Each printed function is the translation of the program's, part 0. -/
set_option maxRecDepth 100000
namespace Rst
open Go Go.Proofs
def h3 : Nat → List (List (Nat × Bool)) := fun _ => []
theorem ok3 : FnOk Tryz.prog 3 a3 := fnTr_ok (h := h3) (by kernel_rfl)
def h7 : Nat → List (List (Nat × Bool)) := fun r => if r = 6 then [[(0, true), (1, true), (2, true), (3, true), (4, true), (5, true), (6, true), (8, true), (9, true), (10, true), (11, true), (12, true), (7, true), (9, false), (12, false), (13, true), (14, true), (15, true), (16, true)]] else []
theorem ok7 : FnOk Tryz.prog 7 a7 := fnTr_ok (h := h7) (by kernel_rfl)
def h11 : Nat → List (List (Nat × Bool)) := fun _ => []
theorem ok11 : FnOk Tryz.prog 11 a11 := fnTr_ok (h := h11) (by kernel_rfl)
def h15 : Nat → List (List (Nat × Bool)) := fun _ => []
theorem ok15 : FnOk Tryz.prog 15 a15 := fnTr_ok (h := h15) (by kernel_rfl)
def h19 : Nat → List (List (Nat × Bool)) := fun r => if r = 6 then [[(0, true), (1, true), (2, true), (3, true), (4, true), (5, true), (6, true), (7, true), (8, true), (9, true), (10, true)]] else []
theorem ok19 : FnOk Tryz.prog 19 a19 := fnTr_ok (h := h19) (by kernel_rfl)
def h23 : Nat → List (List (Nat × Bool)) := fun _ => []
theorem ok23 : FnOk Tryz.prog 23 a23 := fnTr_ok (h := h23) (by kernel_rfl)
def h27 : Nat → List (List (Nat × Bool)) := fun _ => []
theorem ok27 : FnOk Tryz.prog 27 a27 := fnTr_ok (h := h27) (by kernel_rfl)
def h31 : Nat → List (List (Nat × Bool)) := fun _ => []
theorem ok31 : FnOk Tryz.prog 31 a31 := fnTr_ok (h := h31) (by kernel_rfl)
def h35 : Nat → List (List (Nat × Bool)) := fun _ => []
theorem ok35 : FnOk Tryz.prog 35 a35 := fnTr_ok (h := h35) (by kernel_rfl)
def h39 : Nat → List (List (Nat × Bool)) := fun _ => []
theorem ok39 : FnOk Tryz.prog 39 a39 := fnTr_ok (h := h39) (by kernel_rfl)
def h43 : Nat → List (List (Nat × Bool)) := fun _ => []
theorem ok43 : FnOk Tryz.prog 43 a43 := fnTr_ok (h := h43) (by kernel_rfl)
def h47 : Nat → List (List (Nat × Bool)) := fun _ => []
theorem ok47 : FnOk Tryz.prog 47 a47 := fnTr_ok (h := h47) (by kernel_rfl)
def h51 : Nat → List (List (Nat × Bool)) := fun _ => []
theorem ok51 : FnOk Tryz.prog 51 a51 := fnTr_ok (h := h51) (by kernel_rfl)
def h55 : Nat → List (List (Nat × Bool)) := fun _ => []
theorem ok55 : FnOk Tryz.prog 55 a55 := fnTr_ok (h := h55) (by kernel_rfl)
def h59 : Nat → List (List (Nat × Bool)) := fun _ => []
theorem ok59 : FnOk Tryz.prog 59 a59 := fnTr_ok (h := h59) (by kernel_rfl)
def h63 : Nat → List (List (Nat × Bool)) := fun r => if r = 9 then [[(0, true), (1, true), (2, true), (3, true), (4, true)]] else if r = 15 then [[(0, true), (1, true), (2, true), (3, true), (4, true), (5, true)]] else if r = 16 then [[(0, true), (1, true), (2, true), (3, true), (4, true), (5, true), (6, true)]] else []
theorem ok63 : FnOk Tryz.prog 63 a63 := fnTr_ok (h := h63) (by kernel_rfl)
def h67 : Nat → List (List (Nat × Bool)) := fun _ => []
theorem ok67 : FnOk Tryz.prog 67 a67 := fnTr_ok (h := h67) (by kernel_rfl)
def h71 : Nat → List (List (Nat × Bool)) := fun r => if r = 1 then [[(0, true), (1, true), (2, true), (3, true), (5, true), (6, true), (7, true), (8, true), (4, true), (6, false), (8, false), (9, true), (10, true), (11, true), (12, true)]] else []
theorem ok71 : FnOk Tryz.prog 71 a71 := fnTr_ok (h := h71) (by kernel_rfl)
def h75 : Nat → List (List (Nat × Bool)) := fun r => if r = 5 then [[(0, true), (1, true), (2, true), (3, true), (4, true), (5, true), (6, true), (7, true), (8, true), (9, true)]] else if r = 8 then [[(0, true), (1, true), (2, true), (4, true), (5, true), (6, true), (3, true), (7, true), (8, true)]] else []
theorem ok75 : FnOk Tryz.prog 75 a75 := fnTr_ok (h := h75) (by kernel_rfl)
def h79 : Nat → List (List (Nat × Bool)) := fun r => if r = 7 then [[(0, true), (1, true), (2, true), (3, true), (4, true), (5, true), (6, true)]] else if r = 8 then [[(0, true), (1, true), (2, true), (3, true), (4, true), (5, true), (6, true), (7, true), (8, true)]] else if r = 11 then [[(0, true), (1, true), (2, true), (3, true), (4, true), (5, true)]] else []
theorem ok79 : FnOk Tryz.prog 79 a79 := fnTr_ok (h := h79) (by kernel_rfl)
def h83 : Nat → List (List (Nat × Bool)) := fun _ => []
theorem ok83 : FnOk Tryz.prog 83 a83 := fnTr_ok (h := h83) (by kernel_rfl)
def h87 : Nat → List (List (Nat × Bool)) := fun _ => []
theorem ok87 : FnOk Tryz.prog 87 a87 := fnTr_ok (h := h87) (by kernel_rfl)
def h91 : Nat → List (List (Nat × Bool)) := fun _ => []
theorem ok91 : FnOk Tryz.prog 91 a91 := fnTr_ok (h := h91) (by kernel_rfl)
def h95 : Nat → List (List (Nat × Bool)) := fun r => if r = 4 then [[(0, true), (1, true), (2, true), (3, true), (4, true), (5, true)]] else []
theorem ok95 : FnOk Tryz.prog 95 a95 := fnTr_ok (h := h95) (by kernel_rfl)
def h99 : Nat → List (List (Nat × Bool)) := fun _ => []
theorem ok99 : FnOk Tryz.prog 99 a99 := fnTr_ok (h := h99) (by kernel_rfl)
def h103 : Nat → List (List (Nat × Bool)) := fun _ => []
theorem ok103 : FnOk Tryz.prog 103 a103 := fnTr_ok (h := h103) (by kernel_rfl)
def h107 : Nat → List (List (Nat × Bool)) := fun r => if r = 6 then [[(0, true), (1, true), (2, true), (3, true), (4, true), (5, true), (6, true), (7, true), (8, true), (9, true)]] else if r = 11 then [[(0, true), (1, true), (2, true), (3, true), (4, true), (5, true), (6, true), (7, true), (8, true), (9, true)]] else []
theorem ok107 : FnOk Tryz.prog 107 a107 := fnTr_ok (h := h107) (by kernel_rfl)
def h111 : Nat → List (List (Nat × Bool)) := fun _ => []
theorem ok111 : FnOk Tryz.prog 111 a111 := fnTr_ok (h := h111) (by kernel_rfl)
def h115 : Nat → List (List (Nat × Bool)) := fun _ => []
theorem ok115 : FnOk Tryz.prog 115 a115 := fnTr_ok (h := h115) (by kernel_rfl)
def h119 : Nat → List (List (Nat × Bool)) := fun r => if r = 10 then [[(0, true), (1, true), (2, true), (3, true), (4, true), (5, true), (6, true), (7, true), (8, true), (9, true), (10, true), (11, true), (12, true), (13, true), (14, true), (15, true), (16, true), (17, true), (18, true), (19, true)]] else []
theorem ok119 : FnOk Tryz.prog 119 a119 := fnTr_ok (h := h119) (by kernel_rfl)
def h123 : Nat → List (List (Nat × Bool)) := fun r => if r = 5 then [[(0, true), (1, true), (2, true), (3, true), (4, true), (5, true), (6, true), (7, true), (8, true), (9, true), (10, true), (11, true), (12, true), (13, true), (14, true), (15, true), (16, true), (17, true)]] else if r = 11 then [[(0, true), (1, true), (2, true), (3, true), (4, true), (5, true), (6, true), (7, true), (8, true), (9, true), (10, true), (11, true), (12, true), (13, true), (14, true), (15, true), (16, true), (17, true)]] else if r = 16 then [[(0, true), (1, true), (2, true), (3, true), (4, true), (5, true), (6, true), (7, true), (8, true), (9, true), (10, true), (11, true), (12, true)]] else if r = 17 then [[(0, true), (1, true), (2, true), (3, true), (4, true), (5, true), (6, true), (7, true), (8, true), (9, true), (10, true), (11, true), (12, true), (13, true), (14, true), (15, true), (16, true), (17, true)]] else if r = 22 then [[(0, true), (1, true), (2, true), (3, true), (4, true), (5, true), (6, true), (7, true), (8, true), (9, true), (10, true), (11, true), (12, true)]] else if r = 23 then [[(0, true), (1, true), (2, true), (3, true), (4, true), (5, true), (6, true), (7, true), (8, true), (9, true), (10, true), (11, true), (12, true), (13, true), (14, true), (15, true), (16, true), (17, true)]] else []
theorem ok123 : FnOk Tryz.prog 123 a123 := fnTr_ok (h := h123) (by kernel_rfl)
def h127 : Nat → List (List (Nat × Bool)) := fun _ => []
theorem ok127 : FnOk Tryz.prog 127 a127 := fnTr_ok (h := h127) (by kernel_rfl)
def h131 : Nat → List (List (Nat × Bool)) := fun r => if r = 10 then [[(0, true), (1, true), (2, true), (3, true), (4, true), (5, true), (6, true), (7, true), (8, true), (9, true), (10, true), (11, true), (12, true), (13, true), (14, true), (15, true), (16, true), (17, true), (18, true), (19, true)]] else []
theorem ok131 : FnOk Tryz.prog 131 a131 := fnTr_ok (h := h131) (by kernel_rfl)
def h135 : Nat → List (List (Nat × Bool)) := fun r => if r = 1 then [[(0, true), (1, true), (2, true), (3, true), (4, true), (5, true), (6, true), (7, true), (8, true), (9, true), (10, true), (11, true), (12, true), (13, true), (14, true), (15, true)]] else if r = 3 then [[(0, true), (1, true), (2, true), (3, true), (4, true), (5, true), (6, true), (7, true), (8, true), (9, true), (10, true), (11, true), (12, true), (13, true), (14, true), (15, true), (16, true)]] else if r = 5 then [[(0, true), (1, true), (2, true), (3, true), (4, true), (5, true), (6, true), (7, true), (8, true), (9, true), (10, true), (11, true), (12, true), (13, true), (14, true), (15, true)]] else if r = 8 then [[(0, true), (1, true), (2, true), (3, true), (4, true), (5, true), (6, true), (7, true), (8, true), (9, true), (10, true), (11, true), (12, true), (13, true), (14, true), (15, true)]] else []
theorem ok135 : FnOk Tryz.prog 135 a135 := fnTr_ok (h := h135) (by kernel_rfl)
def h139 : Nat → List (List (Nat × Bool)) := fun r => if r = 3 then [[(0, true), (1, true), (2, true), (3, true), (4, true), (5, true), (6, true), (7, true), (8, true), (9, true), (10, true), (11, true)]] else []
theorem ok139 : FnOk Tryz.prog 139 a139 := fnTr_ok (h := h139) (by kernel_rfl)
def h143 : Nat → List (List (Nat × Bool)) := fun r => if r = 1 then [[(0, true), (1, true), (2, true), (3, true), (4, true), (5, true), (6, true), (7, true), (8, true), (9, true), (10, true), (11, true), (12, true), (13, true)]] else []
theorem ok143 : FnOk Tryz.prog 143 a143 := fnTr_ok (h := h143) (by kernel_rfl)
def h147 : Nat → List (List (Nat × Bool)) := fun r => if r = 1 then [[(0, true), (1, true), (2, true), (3, true), (4, true), (5, true), (6, true), (7, true)]] else []
theorem ok147 : FnOk Tryz.prog 147 a147 := fnTr_ok (h := h147) (by kernel_rfl)
def h151 : Nat → List (List (Nat × Bool)) := fun r => if r = 6 then [[(0, true), (1, true), (2, true), (3, true), (4, true), (5, true), (6, true), (7, true), (8, true), (9, true), (10, true), (11, true), (12, true), (13, true)]] else if r = 8 then [[(0, true), (1, true), (2, true), (3, true), (4, true), (5, true), (6, true), (7, true), (8, true), (9, true), (10, true), (11, true), (12, true), (13, true), (14, true), (15, true), (16, true), (17, true), (18, true), (19, true), (20, true), (21, true), (22, true), (23, true), (24, true), (25, true), (26, true), (27, true), (28, true), (29, true), (30, true), (31, true), (32, true)]] else if r = 12 then [[(0, true), (1, true), (2, true), (3, true), (4, true), (5, true), (6, true)]] else if r = 14 then [[(0, true), (1, true), (2, true), (3, true), (4, true), (5, true), (6, true)]] else if r = 16 then [[(0, true), (1, true), (2, true), (3, true), (4, true), (5, true), (6, true)]] else if r = 18 then [[(0, true), (1, true), (2, true), (3, true), (4, true), (5, true), (6, true)]] else if r = 20 then [[(0, true), (1, true), (2, true), (3, true), (4, true), (5, true), (6, true)]] else if r = 22 then [[(0, true), (1, true), (2, true), (3, true), (4, true), (5, true), (6, true), (7, true)]] else if r = 24 then [[(0, true), (1, true), (2, true), (3, true), (4, true), (5, true), (6, true)]] else if r = 26 then [[(0, true), (1, true), (2, true), (3, true), (4, true), (5, true), (6, true)]] else []
theorem ok151 : FnOk Tryz.prog 151 a151 := fnTr_ok (h := h151) (by kernel_rfl)
def h155 : Nat → List (List (Nat × Bool)) := fun r => if r = 1 then [[(0, true), (1, true), (2, true), (3, true), (4, true), (5, true), (6, true), (7, true), (8, true), (9, true)]] else if r = 2 then [[(0, true), (1, true), (2, true), (3, true), (4, true), (5, true), (6, true), (7, true), (8, true), (9, true)]] else if r = 3 then [[(0, true), (1, true), (2, true), (3, true), (4, true), (5, true), (6, true), (7, true), (8, true), (9, true)]] else []
theorem ok155 : FnOk Tryz.prog 155 a155 := fnTr_ok (h := h155) (by kernel_rfl)
def h159 : Nat → List (List (Nat × Bool)) := fun _ => []
theorem ok159 : FnOk Tryz.prog 159 a159 := fnTr_ok (h := h159) (by kernel_rfl)
def h163 : Nat → List (List (Nat × Bool)) := fun r => if r = 10 then [[(0, true), (1, true), (2, true), (3, true), (4, true), (5, true), (6, true), (7, true), (8, true), (9, true), (10, true), (11, true), (12, true), (13, true), (14, true), (15, true), (16, true), (17, true), (18, true), (19, true)]] else []
theorem ok163 : FnOk Tryz.prog 163 a163 := fnTr_ok (h := h163) (by kernel_rfl)
def h167 : Nat → List (List (Nat × Bool)) := fun _ => []
theorem ok167 : FnOk Tryz.prog 167 a167 := fnTr_ok (h := h167) (by kernel_rfl)
def h171 : Nat → List (List (Nat × Bool)) := fun r => if r = 10 then [[(0, true), (1, true), (2, true), (3, true), (4, true), (5, true), (6, true), (7, true), (8, true), (9, true), (10, true), (11, true), (12, true), (13, true), (14, true), (15, true), (16, true), (17, true), (18, true), (19, true)]] else []
theorem ok171 : FnOk Tryz.prog 171 a171 := fnTr_ok (h := h171) (by kernel_rfl)
def h175 : Nat → List (List (Nat × Bool)) := fun r => if r = 5 then [[(0, true), (1, true), (2, true), (3, true), (4, true), (5, true), (6, true), (7, true), (8, true), (9, true), (10, true), (11, true), (12, true), (13, true), (14, true), (15, true)]] else if r = 11 then [[(0, true), (1, true), (2, true), (3, true), (4, true), (5, true), (6, true), (7, true), (8, true), (9, true), (10, true), (11, true), (12, true), (13, true), (14, true), (15, true), (16, true), (17, true)]] else if r = 16 then [[(0, true), (1, true), (2, true), (3, true), (4, true), (5, true), (6, true), (7, true), (8, true), (9, true), (10, true)]] else if r = 17 then [[(0, true), (1, true), (2, true), (3, true), (4, true), (5, true), (6, true), (7, true), (8, true), (9, true), (10, true), (11, true), (12, true), (13, true), (14, true), (15, true), (16, true), (17, true)]] else if r = 22 then [[(0, true), (1, true), (2, true), (3, true), (4, true), (5, true), (6, true), (7, true), (8, true), (9, true), (10, true)]] else if r = 23 then [[(0, true), (1, true), (2, true), (3, true), (4, true), (5, true), (6, true), (7, true), (8, true), (9, true), (10, true), (11, true), (12, true), (13, true), (14, true), (15, true), (16, true), (17, true)]] else []
theorem ok175 : FnOk Tryz.prog 175 a175 := fnTr_ok (h := h175) (by kernel_rfl)
def h179 : Nat → List (List (Nat × Bool)) := fun _ => []
theorem ok179 : FnOk Tryz.prog 179 a179 := fnTr_ok (h := h179) (by kernel_rfl)
def h183 : Nat → List (List (Nat × Bool)) := fun _ => []
theorem ok183 : FnOk Tryz.prog 183 a183 := fnTr_ok (h := h183) (by kernel_rfl)
def h187 : Nat → List (List (Nat × Bool)) := fun r => if r = 1 then [[(0, true), (1, true), (2, true), (3, true), (4, true), (5, true), (6, true), (7, true), (8, true), (9, true), (10, true)]] else []
theorem ok187 : FnOk Tryz.prog 187 a187 := fnTr_ok (h := h187) (by kernel_rfl)
def h191 : Nat → List (List (Nat × Bool)) := fun _ => []
theorem ok191 : FnOk Tryz.prog 191 a191 := fnTr_ok (h := h191) (by kernel_rfl)
def h195 : Nat → List (List (Nat × Bool)) := fun _ => []
theorem ok195 : FnOk Tryz.prog 195 a195 := fnTr_ok (h := h195) (by kernel_rfl)
def h200 : Nat → List (List (Nat × Bool)) := fun _ => []
theorem ok200 : FnOk Tryz.prog 200 a200 := fnTr_ok (h := h200) (by kernel_rfl)
def h205 : Nat → List (List (Nat × Bool)) := fun r => if r = 1 then [[(0, true), (1, true), (2, true), (3, true), (4, true), (5, true), (6, true), (7, true), (8, true)]] else []
theorem ok205 : FnOk Tryz.prog 205 a205 := fnTr_ok (h := h205) (by kernel_rfl)
def h210 : Nat → List (List (Nat × Bool)) := fun _ => []
theorem ok210 : FnOk Tryz.prog 210 a210 := fnTr_ok (h := h210) (by kernel_rfl)
def h214 : Nat → List (List (Nat × Bool)) := fun r => if r = 7 then [[(0, true), (1, true), (2, true), (3, true), (4, true), (5, true), (6, true), (7, true), (8, true), (9, true), (10, true), (11, true), (12, true), (13, true), (14, true)]] else if r = 8 then [[(0, true), (1, true), (2, true), (3, true), (4, true), (5, true), (6, true), (7, true), (8, true), (9, true), (10, true), (11, true), (12, true), (13, true), (14, true)]] else if r = 9 then [[(0, true), (1, true), (2, true), (3, true), (4, true), (5, true), (6, true), (7, true), (8, true), (9, true), (10, true), (11, true), (12, true), (13, true), (14, true)]] else if r = 10 then [[(0, true), (1, true), (2, true), (3, true), (4, true), (5, true), (6, true), (7, true), (8, true), (9, true), (10, true), (11, true), (12, true), (13, true), (14, true)]] else if r = 17 then [[(0, true), (1, true), (2, true), (3, true), (4, true), (5, true), (6, true), (7, true), (8, true), (9, true), (10, true), (11, true), (12, true), (13, true), (14, true)]] else if r = 18 then [[(0, true), (1, true), (2, true), (3, true), (4, true), (5, true), (6, true), (7, true), (8, true), (9, true), (10, true), (11, true), (12, true), (13, true), (14, true)]] else if r = 23 then [[(0, true), (1, true), (2, true), (3, true), (4, true), (5, true), (6, true), (7, true), (8, true), (9, true), (10, true), (11, true), (12, true), (13, true), (14, true)]] else []
theorem ok214 : FnOk Tryz.prog 214 a214 := fnTr_ok (h := h214) (by kernel_rfl)
def h218 : Nat → List (List (Nat × Bool)) := fun _ => []
theorem ok218 : FnOk Tryz.prog 218 a218 := fnTr_ok (h := h218) (by kernel_rfl)
end Rst
