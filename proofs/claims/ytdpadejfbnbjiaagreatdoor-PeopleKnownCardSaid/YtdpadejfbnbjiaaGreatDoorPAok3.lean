/- A verified abstract machine for this program, contracts of its functions, and rows: PAok3. -/
import Derived.Test.YtdpadejfbnbjiaaGreatDoorF
import Derived.Test.YtdpadejfbnbjiaaGreatDoorPA0
import Derived.Test.YtdpadejfbnbjiaaGreatDoorPA1
import Derived.Test.YtdpadejfbnbjiaaGreatDoorPA2
import Derived.Test.YtdpadejfbnbjiaaGreatDoorPA3
import Derived.Test.YtdpadejfbnbjiaaGreatDoorProg
/- Each printed function is the translation of the program's, part 3. -/
set_option maxRecDepth 100000
namespace Rst
open Go Go.Proofs
def h6 : Nat → List (List (Nat × Bool)) := fun _ => []
theorem ok6 : FnOk Tryz.prog 6 a6 := fnTr_ok (h := h6) (by kernel_rfl)
def h10 : Nat → List (List (Nat × Bool)) := fun r => if r = 10 then [[(0, true), (1, true), (2, true), (3, true), (4, true), (5, true), (6, true), (7, true), (8, true), (9, true)]] else []
theorem ok10 : FnOk Tryz.prog 10 a10 := fnTr_ok (h := h10) (by kernel_rfl)
def h14 : Nat → List (List (Nat × Bool)) := fun _ => []
theorem ok14 : FnOk Tryz.prog 14 a14 := fnTr_ok (h := h14) (by kernel_rfl)
def h18 : Nat → List (List (Nat × Bool)) := fun r => if r = 31 then [[(0, true), (1, true), (2, true), (3, true), (4, true), (5, true), (6, true), (7, true), (8, true)]] else []
theorem ok18 : FnOk Tryz.prog 18 a18 := fnTr_ok (h := h18) (by kernel_rfl)
def h22 : Nat → List (List (Nat × Bool)) := fun _ => []
theorem ok22 : FnOk Tryz.prog 22 a22 := fnTr_ok (h := h22) (by kernel_rfl)
def h26 : Nat → List (List (Nat × Bool)) := fun _ => []
theorem ok26 : FnOk Tryz.prog 26 a26 := fnTr_ok (h := h26) (by kernel_rfl)
def h30 : Nat → List (List (Nat × Bool)) := fun _ => []
theorem ok30 : FnOk Tryz.prog 30 a30 := fnTr_ok (h := h30) (by kernel_rfl)
def h34 : Nat → List (List (Nat × Bool)) := fun r => if r = 10 then [[(0, true), (1, true), (2, true), (3, true), (4, true), (5, true), (6, true), (7, true), (8, true), (9, true), (10, true), (11, true), (12, true)]] else []
theorem ok34 : FnOk Tryz.prog 34 a34 := fnTr_ok (h := h34) (by kernel_rfl)
def h38 : Nat → List (List (Nat × Bool)) := fun _ => []
theorem ok38 : FnOk Tryz.prog 38 a38 := fnTr_ok (h := h38) (by kernel_rfl)
def h42 : Nat → List (List (Nat × Bool)) := fun r => if r = 12 then [[(0, true), (1, true), (2, true), (3, true), (4, true), (5, true), (6, true), (7, true), (8, true), (9, true), (10, true), (11, true), (12, true), (13, true), (14, true), (15, true), (16, true), (17, true), (18, true)]] else []
theorem ok42 : FnOk Tryz.prog 42 a42 := fnTr_ok (h := h42) (by kernel_rfl)
def h46 : Nat → List (List (Nat × Bool)) := fun _ => []
theorem ok46 : FnOk Tryz.prog 46 a46 := fnTr_ok (h := h46) (by kernel_rfl)
def h50 : Nat → List (List (Nat × Bool)) := fun _ => []
theorem ok50 : FnOk Tryz.prog 50 a50 := fnTr_ok (h := h50) (by kernel_rfl)
def h54 : Nat → List (List (Nat × Bool)) := fun r => if r = 12 then [[(0, true), (1, true), (2, true), (3, true), (4, true), (5, true), (6, true), (7, true), (8, true), (9, true), (10, true), (11, true), (12, true)]] else []
theorem ok54 : FnOk Tryz.prog 54 a54 := fnTr_ok (h := h54) (by kernel_rfl)
def h58 : Nat → List (List (Nat × Bool)) := fun _ => []
theorem ok58 : FnOk Tryz.prog 58 a58 := fnTr_ok (h := h58) (by kernel_rfl)
def h62 : Nat → List (List (Nat × Bool)) := fun _ => []
theorem ok62 : FnOk Tryz.prog 62 a62 := fnTr_ok (h := h62) (by kernel_rfl)
def h66 : Nat → List (List (Nat × Bool)) := fun _ => []
theorem ok66 : FnOk Tryz.prog 66 a66 := fnTr_ok (h := h66) (by kernel_rfl)
def h70 : Nat → List (List (Nat × Bool)) := fun _ => []
theorem ok70 : FnOk Tryz.prog 70 a70 := fnTr_ok (h := h70) (by kernel_rfl)
def h74 : Nat → List (List (Nat × Bool)) := fun _ => []
theorem ok74 : FnOk Tryz.prog 74 a74 := fnTr_ok (h := h74) (by kernel_rfl)
def h78 : Nat → List (List (Nat × Bool)) := fun _ => []
theorem ok78 : FnOk Tryz.prog 78 a78 := fnTr_ok (h := h78) (by kernel_rfl)
def h82 : Nat → List (List (Nat × Bool)) := fun _ => []
theorem ok82 : FnOk Tryz.prog 82 a82 := fnTr_ok (h := h82) (by kernel_rfl)
def h86 : Nat → List (List (Nat × Bool)) := fun _ => []
theorem ok86 : FnOk Tryz.prog 86 a86 := fnTr_ok (h := h86) (by kernel_rfl)
def h90 : Nat → List (List (Nat × Bool)) := fun r => if r = 4 then [[(0, true), (2, true), (1, true), (2, false), (3, true), (4, true), (5, true)], [(0, true), (2, true), (3, true), (1, true), (2, false), (4, true), (5, true)]] else []
theorem ok90 : FnOk Tryz.prog 90 a90 := fnTr_ok (h := h90) (by kernel_rfl)
def h94 : Nat → List (List (Nat × Bool)) := fun r => if r = 4 then [[(0, true), (1, true), (2, true), (3, true), (4, true), (5, true), (6, true), (7, true), (8, true)]] else if r = 10 then [[(0, true), (1, true), (2, true), (3, true), (4, true), (5, true), (6, true), (7, true), (8, true)]] else []
theorem ok94 : FnOk Tryz.prog 94 a94 := fnTr_ok (h := h94) (by kernel_rfl)
def h98 : Nat → List (List (Nat × Bool)) := fun _ => []
theorem ok98 : FnOk Tryz.prog 98 a98 := fnTr_ok (h := h98) (by kernel_rfl)
def h102 : Nat → List (List (Nat × Bool)) := fun r => if r = 17 then [[(0, true), (1, true), (2, true), (3, true), (4, true), (5, true), (6, true), (7, true), (8, true), (9, true), (10, true), (11, true), (12, true), (13, true), (14, true), (15, true), (16, true)]] else []
theorem ok102 : FnOk Tryz.prog 102 a102 := fnTr_ok (h := h102) (by kernel_rfl)
def h106 : Nat → List (List (Nat × Bool)) := fun _ => []
theorem ok106 : FnOk Tryz.prog 106 a106 := fnTr_ok (h := h106) (by kernel_rfl)
def h110 : Nat → List (List (Nat × Bool)) := fun _ => []
theorem ok110 : FnOk Tryz.prog 110 a110 := fnTr_ok (h := h110) (by kernel_rfl)
def h114 : Nat → List (List (Nat × Bool)) := fun r => if r = 4 then [[(1, true), (2, true), (0, true), (2, false), (3, true), (4, true), (2, false), (3, false), (5, true)], [(1, true), (2, true), (4, true), (2, false), (0, true), (2, false), (3, true), (5, true)]] else if r = 5 then [[(0, true), (1, true), (4, true), (5, true), (2, true), (5, false), (3, true), (6, true), (7, true)]] else []
theorem ok114 : FnOk Tryz.prog 114 a114 := fnTr_ok (h := h114) (by kernel_rfl)
def h118 : Nat → List (List (Nat × Bool)) := fun r => if r = 4 then [[(0, true), (1, true), (2, true), (3, true), (4, true), (5, true), (6, true), (7, true), (8, true), (9, true), (10, true), (11, true), (12, true), (13, true), (14, true), (15, true), (16, true)]] else if r = 6 then [[(0, true), (1, true), (2, true), (3, true), (4, true), (5, true), (6, true), (7, true), (8, true), (9, true), (10, true), (11, true), (12, true), (13, true), (14, true), (15, true), (16, true), (17, true)]] else []
theorem ok118 : FnOk Tryz.prog 118 a118 := fnTr_ok (h := h118) (by kernel_rfl)
def h122 : Nat → List (List (Nat × Bool)) := fun r => if r = 3 then [[(0, true), (1, true), (2, true), (3, true), (4, true), (5, true), (6, true), (7, true), (8, true), (9, true), (10, true), (11, true), (12, true), (13, true), (14, true), (15, true)]] else []
theorem ok122 : FnOk Tryz.prog 122 a122 := fnTr_ok (h := h122) (by kernel_rfl)
def h126 : Nat → List (List (Nat × Bool)) := fun _ => []
theorem ok126 : FnOk Tryz.prog 126 a126 := fnTr_ok (h := h126) (by kernel_rfl)
def h130 : Nat → List (List (Nat × Bool)) := fun r => if r = 10 then [[(0, true), (1, true), (2, true), (3, true), (4, true), (5, true), (6, true), (7, true), (8, true), (9, true), (10, true), (11, true), (12, true), (13, true), (14, true), (15, true), (16, true), (17, true), (18, true), (19, true)]] else []
theorem ok130 : FnOk Tryz.prog 130 a130 := fnTr_ok (h := h130) (by kernel_rfl)
def h134 : Nat → List (List (Nat × Bool)) := fun r => if r = 5 then [[(0, true), (1, true), (2, true), (3, true), (4, true), (5, true), (6, true), (7, true), (8, true), (9, true), (10, true), (11, true), (12, true), (13, true), (14, true), (15, true), (16, true), (17, true)]] else if r = 11 then [[(0, true), (1, true), (2, true), (3, true), (4, true), (5, true), (6, true), (7, true), (8, true), (9, true), (10, true), (11, true), (12, true), (13, true), (14, true), (15, true), (16, true), (17, true)]] else if r = 16 then [[(0, true), (1, true), (2, true), (3, true), (4, true), (5, true), (6, true), (7, true), (8, true), (9, true), (10, true), (11, true), (12, true)]] else if r = 17 then [[(0, true), (1, true), (2, true), (3, true), (4, true), (5, true), (6, true), (7, true), (8, true), (9, true), (10, true), (11, true), (12, true), (13, true), (14, true), (15, true), (16, true), (17, true)]] else if r = 22 then [[(0, true), (1, true), (2, true), (3, true), (4, true), (5, true), (6, true), (7, true), (8, true), (9, true), (10, true), (11, true), (12, true)]] else if r = 23 then [[(0, true), (1, true), (2, true), (3, true), (4, true), (5, true), (6, true), (7, true), (8, true), (9, true), (10, true), (11, true), (12, true), (13, true), (14, true), (15, true), (16, true), (17, true)]] else []
theorem ok134 : FnOk Tryz.prog 134 a134 := fnTr_ok (h := h134) (by kernel_rfl)
def h138 : Nat → List (List (Nat × Bool)) := fun r => if r = 17 then [[(0, true), (1, true), (2, true), (3, true), (4, true), (5, true), (6, true), (7, true), (8, true), (9, true), (10, true), (11, true), (12, true), (13, true), (14, true)]] else []
theorem ok138 : FnOk Tryz.prog 138 a138 := fnTr_ok (h := h138) (by kernel_rfl)
def h142 : Nat → List (List (Nat × Bool)) := fun r => if r = 1 then [[(0, true), (1, true), (2, true), (3, true), (4, true), (5, true), (6, true), (7, true), (8, true), (9, true), (10, true)]] else []
theorem ok142 : FnOk Tryz.prog 142 a142 := fnTr_ok (h := h142) (by kernel_rfl)
def h146 : Nat → List (List (Nat × Bool)) := fun r => if r = 1 then [[(0, true), (1, true), (2, true), (3, true), (4, true), (5, true), (6, true), (7, true), (8, true), (9, true), (10, true), (11, true), (12, true), (13, true), (14, true), (15, true), (16, true), (17, true), (18, true), (19, true), (20, true), (21, true), (22, true)]] else []
theorem ok146 : FnOk Tryz.prog 146 a146 := fnTr_ok (h := h146) (by kernel_rfl)
def h150 : Nat → List (List (Nat × Bool)) := fun _ => []
theorem ok150 : FnOk Tryz.prog 150 a150 := fnTr_ok (h := h150) (by kernel_rfl)
def h154 : Nat → List (List (Nat × Bool)) := fun _ => []
theorem ok154 : FnOk Tryz.prog 154 a154 := fnTr_ok (h := h154) (by kernel_rfl)
def h158 : Nat → List (List (Nat × Bool)) := fun r => if r = 3 then [[(0, true), (1, true), (2, true), (3, true), (4, true), (5, true), (6, true), (7, true), (8, true), (9, true), (10, true), (11, true), (12, true), (13, true), (14, true), (15, true), (16, true), (17, true), (18, true), (19, true), (20, true), (21, true)]] else if r = 5 then [[(0, true), (1, true), (2, true), (3, true), (4, true), (5, true), (6, true), (7, true), (8, true), (9, true), (10, true), (11, true), (12, true), (13, true), (14, true), (15, true)]] else if r = 6 then [[(0, true), (1, true), (2, true), (3, true), (4, true), (5, true), (6, true), (7, true), (8, true), (9, true), (10, true), (11, true), (12, true), (13, true), (14, true), (15, true), (16, true), (17, true), (18, true), (19, true), (20, true), (21, true), (22, true), (23, true)]] else []
theorem ok158 : FnOk Tryz.prog 158 a158 := fnTr_ok (h := h158) (by kernel_rfl)
def h162 : Nat → List (List (Nat × Bool)) := fun r => if r = 10 then [[(0, true), (1, true), (2, true), (3, true), (4, true), (5, true), (6, true), (7, true), (8, true), (9, true), (10, true), (11, true), (12, true), (13, true), (14, true), (15, true), (16, true), (17, true), (18, true), (19, true)]] else []
theorem ok162 : FnOk Tryz.prog 162 a162 := fnTr_ok (h := h162) (by kernel_rfl)
def h166 : Nat → List (List (Nat × Bool)) := fun r => if r = 5 then [[(0, true), (1, true), (2, true), (3, true), (4, true), (5, true), (6, true), (7, true), (8, true), (9, true), (10, true), (11, true), (12, true), (13, true), (14, true), (15, true)]] else if r = 11 then [[(0, true), (1, true), (2, true), (3, true), (4, true), (5, true), (6, true), (7, true), (8, true), (9, true), (10, true), (11, true), (12, true), (13, true), (14, true), (15, true), (16, true), (17, true)]] else if r = 16 then [[(0, true), (1, true), (2, true), (3, true), (4, true), (5, true), (6, true), (7, true), (8, true), (9, true), (10, true)]] else if r = 17 then [[(0, true), (1, true), (2, true), (3, true), (4, true), (5, true), (6, true), (7, true), (8, true), (9, true), (10, true), (11, true), (12, true), (13, true), (14, true), (15, true), (16, true), (17, true)]] else if r = 22 then [[(0, true), (1, true), (2, true), (3, true), (4, true), (5, true), (6, true), (7, true), (8, true), (9, true), (10, true)]] else if r = 23 then [[(0, true), (1, true), (2, true), (3, true), (4, true), (5, true), (6, true), (7, true), (8, true), (9, true), (10, true), (11, true), (12, true), (13, true), (14, true), (15, true), (16, true), (17, true)]] else []
theorem ok166 : FnOk Tryz.prog 166 a166 := fnTr_ok (h := h166) (by kernel_rfl)
def h170 : Nat → List (List (Nat × Bool)) := fun r => if r = 4 then [[(0, true), (1, true), (2, true), (3, true), (4, true), (5, true), (6, true), (7, true), (8, true), (9, true), (10, true), (11, true), (12, true), (13, true), (14, true)]] else if r = 6 then [[(0, true), (1, true), (2, true), (3, true), (4, true), (5, true), (6, true), (7, true), (8, true), (9, true), (10, true), (11, true), (12, true), (13, true), (14, true), (15, true), (16, true), (17, true)]] else []
theorem ok170 : FnOk Tryz.prog 170 a170 := fnTr_ok (h := h170) (by kernel_rfl)
def h174 : Nat → List (List (Nat × Bool)) := fun r => if r = 3 then [[(0, true), (1, true), (2, true), (3, true), (4, true), (5, true), (6, true), (7, true), (8, true), (9, true), (10, true), (11, true), (12, true), (13, true), (14, true), (15, true)]] else []
theorem ok174 : FnOk Tryz.prog 174 a174 := fnTr_ok (h := h174) (by kernel_rfl)
def h178 : Nat → List (List (Nat × Bool)) := fun r => if r = 1 then [[(0, true), (1, true), (2, true), (3, true), (4, true), (5, true), (6, true), (7, true), (8, true), (9, true), (10, true), (11, true), (12, true), (13, true), (14, true), (15, true)]] else if r = 3 then [[(0, true), (1, true), (2, true), (3, true), (4, true), (5, true), (6, true), (7, true), (8, true), (9, true), (10, true), (11, true), (12, true), (13, true)]] else if r = 5 then [[(0, true), (1, true), (2, true), (3, true), (4, true), (5, true), (6, true), (7, true), (8, true), (9, true), (10, true), (11, true), (12, true), (13, true), (14, true)]] else if r = 8 then [[(0, true), (1, true), (2, true), (3, true), (4, true), (5, true), (6, true), (7, true), (8, true), (9, true), (10, true), (11, true), (12, true), (13, true), (14, true), (15, true)]] else if r = 10 then [[(0, true), (1, true), (2, true), (3, true), (4, true), (5, true), (6, true), (7, true), (8, true), (9, true), (10, true), (11, true), (12, true), (13, true), (14, true), (15, true)]] else if r = 13 then [[(0, true), (1, true), (2, true), (3, true), (4, true), (5, true), (6, true), (7, true), (8, true), (9, true), (10, true), (11, true), (12, true), (13, true)]] else if r = 15 then [[(0, true), (1, true), (2, true), (3, true), (4, true), (5, true), (6, true), (7, true), (8, true), (9, true), (10, true), (11, true), (12, true), (13, true), (14, true)]] else if r = 18 then [[(0, true), (1, true), (2, true), (3, true), (4, true), (5, true), (6, true), (7, true), (8, true), (9, true), (10, true), (11, true), (12, true), (13, true), (14, true), (15, true)]] else if r = 21 then [[(0, true), (1, true), (2, true), (3, true), (4, true), (5, true), (6, true), (7, true), (8, true), (9, true), (10, true), (11, true), (12, true), (13, true), (14, true), (15, true)]] else []
theorem ok178 : FnOk Tryz.prog 178 a178 := fnTr_ok (h := h178) (by kernel_rfl)
def h182 : Nat → List (List (Nat × Bool)) := fun r => if r = 1 then [[(0, true), (1, true), (3, true), (2, true), (3, false), (4, true), (5, true), (6, true)]] else []
theorem ok182 : FnOk Tryz.prog 182 a182 := fnTr_ok (h := h182) (by kernel_rfl)
def h186 : Nat → List (List (Nat × Bool)) := fun _ => []
theorem ok186 : FnOk Tryz.prog 186 a186 := fnTr_ok (h := h186) (by kernel_rfl)
def h190 : Nat → List (List (Nat × Bool)) := fun _ => []
theorem ok190 : FnOk Tryz.prog 190 a190 := fnTr_ok (h := h190) (by kernel_rfl)
def h194 : Nat → List (List (Nat × Bool)) := fun _ => []
theorem ok194 : FnOk Tryz.prog 194 a194 := fnTr_ok (h := h194) (by kernel_rfl)
def h199 : Nat → List (List (Nat × Bool)) := fun _ => []
theorem ok199 : FnOk Tryz.prog 199 a199 := fnTr_ok (h := h199) (by kernel_rfl)
def h204 : Nat → List (List (Nat × Bool)) := fun _ => []
theorem ok204 : FnOk Tryz.prog 204 a204 := fnTr_ok (h := h204) (by kernel_rfl)
def h209 : Nat → List (List (Nat × Bool)) := fun _ => []
theorem ok209 : FnOk Tryz.prog 209 a209 := fnTr_ok (h := h209) (by kernel_rfl)
def h213 : Nat → List (List (Nat × Bool)) := fun _ => []
theorem ok213 : FnOk Tryz.prog 213 a213 := fnTr_ok (h := h213) (by kernel_rfl)
def h217 : Nat → List (List (Nat × Bool)) := fun _ => []
theorem ok217 : FnOk Tryz.prog 217 a217 := fnTr_ok (h := h217) (by kernel_rfl)
def h221 : Nat → List (List (Nat × Bool)) := fun _ => []
theorem ok221 : FnOk Tryz.prog 221 a221 := fnTr_ok (h := h221) (by kernel_rfl)
end Rst
