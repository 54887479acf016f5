/- A verified abstract machine for this program, contracts of its functions, and rows: PAok2. -/
import Derived.Test.YtdpadejfbnbjiaaGreatDoorF
import Derived.Test.YtdpadejfbnbjiaaGreatDoorPA0
import Derived.Test.YtdpadejfbnbjiaaGreatDoorPA1
import Derived.Test.YtdpadejfbnbjiaaGreatDoorPA2
import Derived.Test.YtdpadejfbnbjiaaGreatDoorPA3
import Derived.Test.YtdpadejfbnbjiaaGreatDoorProg
/- Each printed function is the translation of the program's, part 2. -/
set_option maxRecDepth 100000
namespace Rst
open Go Go.Proofs
def h5 : Nat → List (List (Nat × Bool)) := fun _ => []
theorem ok5 : FnOk Tryz.prog 5 a5 := fnTr_ok (h := h5) (by kernel_rfl)
def h9 : Nat → List (List (Nat × Bool)) := fun _ => []
theorem ok9 : FnOk Tryz.prog 9 a9 := fnTr_ok (h := h9) (by kernel_rfl)
def h13 : Nat → List (List (Nat × Bool)) := fun _ => []
theorem ok13 : FnOk Tryz.prog 13 a13 := fnTr_ok (h := h13) (by kernel_rfl)
def h17 : Nat → List (List (Nat × Bool)) := fun r => if r = 9 then [[(0, true), (1, true), (2, true), (0, false), (3, true), (4, true)]] else if r = 12 then [[(0, true), (1, true), (2, true), (0, false), (3, true), (4, true)]] else if r = 17 then [[(0, true), (1, true), (2, true), (3, true), (1, false), (4, true), (5, true)]] else if r = 23 then [[(0, true), (1, true), (2, true), (3, true), (4, true), (1, false), (5, true), (6, true), (7, true), (8, true)]] else if r = 26 then [[(0, true), (1, true), (2, true), (0, false), (3, true), (4, true)]] else []
theorem ok17 : FnOk Tryz.prog 17 a17 := fnTr_ok (h := h17) (by kernel_rfl)
def h21 : Nat → List (List (Nat × Bool)) := fun r => if r = 6 then [[(0, true), (1, true), (2, true), (3, true), (4, true), (5, true), (6, true), (7, true), (8, true)]] else []
theorem ok21 : FnOk Tryz.prog 21 a21 := fnTr_ok (h := h21) (by kernel_rfl)
def h25 : Nat → List (List (Nat × Bool)) := fun r => if r = 6 then [[(0, true), (1, true), (2, true), (3, true), (4, true), (5, true), (6, true), (7, true), (8, true)]] else []
theorem ok25 : FnOk Tryz.prog 25 a25 := fnTr_ok (h := h25) (by kernel_rfl)
def h29 : Nat → List (List (Nat × Bool)) := fun r => if r = 5 then [[(0, true), (1, true), (2, true), (3, true), (4, true), (5, true), (6, true)]] else []
theorem ok29 : FnOk Tryz.prog 29 a29 := fnTr_ok (h := h29) (by kernel_rfl)
def h33 : Nat → List (List (Nat × Bool)) := fun _ => []
theorem ok33 : FnOk Tryz.prog 33 a33 := fnTr_ok (h := h33) (by kernel_rfl)
def h37 : Nat → List (List (Nat × Bool)) := fun r => if r = 6 then [[(0, true), (1, true), (2, true), (3, true)]] else []
theorem ok37 : FnOk Tryz.prog 37 a37 := fnTr_ok (h := h37) (by kernel_rfl)
def h41 : Nat → List (List (Nat × Bool)) := fun _ => []
theorem ok41 : FnOk Tryz.prog 41 a41 := fnTr_ok (h := h41) (by kernel_rfl)
def h45 : Nat → List (List (Nat × Bool)) := fun _ => []
theorem ok45 : FnOk Tryz.prog 45 a45 := fnTr_ok (h := h45) (by kernel_rfl)
def h49 : Nat → List (List (Nat × Bool)) := fun _ => []
theorem ok49 : FnOk Tryz.prog 49 a49 := fnTr_ok (h := h49) (by kernel_rfl)
def h53 : Nat → List (List (Nat × Bool)) := fun _ => []
theorem ok53 : FnOk Tryz.prog 53 a53 := fnTr_ok (h := h53) (by kernel_rfl)
def h57 : Nat → List (List (Nat × Bool)) := fun _ => []
theorem ok57 : FnOk Tryz.prog 57 a57 := fnTr_ok (h := h57) (by kernel_rfl)
def h61 : Nat → List (List (Nat × Bool)) := fun _ => []
theorem ok61 : FnOk Tryz.prog 61 a61 := fnTr_ok (h := h61) (by kernel_rfl)
def h65 : Nat → List (List (Nat × Bool)) := fun r => if r = 6 then [[(0, true), (1, true), (2, true), (3, true), (4, true), (5, true), (6, true), (7, true), (8, true)]] else []
theorem ok65 : FnOk Tryz.prog 65 a65 := fnTr_ok (h := h65) (by kernel_rfl)
def h69 : Nat → List (List (Nat × Bool)) := fun _ => []
theorem ok69 : FnOk Tryz.prog 69 a69 := fnTr_ok (h := h69) (by kernel_rfl)
def h73 : Nat → List (List (Nat × Bool)) := fun _ => []
theorem ok73 : FnOk Tryz.prog 73 a73 := fnTr_ok (h := h73) (by kernel_rfl)
def h77 : Nat → List (List (Nat × Bool)) := fun r => if r = 1 then [[(0, true), (1, true), (2, true), (3, true), (4, true), (5, true), (6, true), (7, true)]] else []
theorem ok77 : FnOk Tryz.prog 77 a77 := fnTr_ok (h := h77) (by kernel_rfl)
def h81 : Nat → List (List (Nat × Bool)) := fun _ => []
theorem ok81 : FnOk Tryz.prog 81 a81 := fnTr_ok (h := h81) (by kernel_rfl)
def h85 : Nat → List (List (Nat × Bool)) := fun _ => []
theorem ok85 : FnOk Tryz.prog 85 a85 := fnTr_ok (h := h85) (by kernel_rfl)
def h89 : Nat → List (List (Nat × Bool)) := fun _ => []
theorem ok89 : FnOk Tryz.prog 89 a89 := fnTr_ok (h := h89) (by kernel_rfl)
def h93 : Nat → List (List (Nat × Bool)) := fun _ => []
theorem ok93 : FnOk Tryz.prog 93 a93 := fnTr_ok (h := h93) (by kernel_rfl)
def h97 : Nat → List (List (Nat × Bool)) := fun r => if r = 17 then [[(0, true), (1, true), (2, true), (3, true), (4, true), (5, true), (6, true), (7, true), (8, true), (9, true), (10, true), (11, true), (12, true), (13, true), (14, true), (15, true), (16, true)]] else []
theorem ok97 : FnOk Tryz.prog 97 a97 := fnTr_ok (h := h97) (by kernel_rfl)
def h101 : Nat → List (List (Nat × Bool)) := fun _ => []
theorem ok101 : FnOk Tryz.prog 101 a101 := fnTr_ok (h := h101) (by kernel_rfl)
def h105 : Nat → List (List (Nat × Bool)) := fun r => if r = 6 then [[(0, true), (1, true), (2, true), (3, true), (4, true), (5, true), (6, true), (7, true), (8, true), (9, true)]] else if r = 11 then [[(0, true), (1, true), (2, true), (3, true), (4, true), (5, true), (6, true), (7, true), (8, true), (9, true)]] else []
theorem ok105 : FnOk Tryz.prog 105 a105 := fnTr_ok (h := h105) (by kernel_rfl)
def h109 : Nat → List (List (Nat × Bool)) := fun r => if r = 6 then [[(0, true), (1, true), (2, true), (3, true), (4, true), (5, true), (6, true), (7, true), (8, true)]] else []
theorem ok109 : FnOk Tryz.prog 109 a109 := fnTr_ok (h := h109) (by kernel_rfl)
def h113 : Nat → List (List (Nat × Bool)) := fun _ => []
theorem ok113 : FnOk Tryz.prog 113 a113 := fnTr_ok (h := h113) (by kernel_rfl)
def h117 : Nat → List (List (Nat × Bool)) := fun _ => []
theorem ok117 : FnOk Tryz.prog 117 a117 := fnTr_ok (h := h117) (by kernel_rfl)
def h121 : Nat → List (List (Nat × Bool)) := fun _ => []
theorem ok121 : FnOk Tryz.prog 121 a121 := fnTr_ok (h := h121) (by kernel_rfl)
def h125 : Nat → List (List (Nat × Bool)) := fun r => if r = 1 then [[(0, true), (1, true), (2, true), (3, true), (4, true), (5, true), (6, true), (7, true), (8, true), (9, true), (10, true), (11, true), (12, true), (13, true), (14, true), (15, true)]] else if r = 3 then [[(0, true), (1, true), (2, true), (3, true), (4, true), (5, true), (6, true), (7, true), (8, true), (9, true), (10, true), (11, true), (12, true), (13, true), (14, true), (15, true)]] else if r = 5 then [[(0, true), (1, true), (2, true), (3, true), (4, true), (5, true), (6, true), (7, true), (8, true), (9, true), (10, true), (11, true), (12, true), (13, true), (14, true), (15, true), (16, true)]] else if r = 8 then [[(0, true), (1, true), (2, true), (3, true), (4, true), (5, true), (6, true), (7, true), (8, true), (9, true), (10, true), (11, true), (12, true), (13, true), (14, true), (15, true)]] else if r = 10 then [[(0, true), (1, true), (2, true), (3, true), (4, true), (5, true), (6, true), (7, true), (8, true), (9, true), (10, true), (11, true), (12, true), (13, true), (14, true), (15, true)]] else if r = 13 then [[(0, true), (1, true), (2, true), (3, true), (4, true), (5, true), (6, true), (7, true), (8, true), (9, true), (10, true), (11, true), (12, true), (13, true), (14, true), (15, true)]] else if r = 15 then [[(0, true), (1, true), (2, true), (3, true), (4, true), (5, true), (6, true), (7, true), (8, true), (9, true), (10, true), (11, true), (12, true), (13, true), (14, true), (15, true), (16, true)]] else if r = 18 then [[(0, true), (1, true), (2, true), (3, true), (4, true), (5, true), (6, true), (7, true), (8, true), (9, true), (10, true), (11, true), (12, true), (13, true), (14, true), (15, true)]] else if r = 21 then [[(0, true), (1, true), (2, true), (3, true), (4, true), (5, true), (6, true), (7, true), (8, true), (9, true), (10, true), (11, true), (12, true), (13, true), (14, true), (15, true)]] else []
theorem ok125 : FnOk Tryz.prog 125 a125 := fnTr_ok (h := h125) (by kernel_rfl)
def h129 : Nat → List (List (Nat × Bool)) := fun r => if r = 4 then [[(0, true), (1, true), (2, true), (3, true), (4, true), (5, true), (6, true), (7, true), (8, true), (9, true), (10, true), (11, true), (12, true), (13, true), (14, true), (15, true), (16, true)]] else if r = 6 then [[(0, true), (1, true), (2, true), (3, true), (4, true), (5, true), (6, true), (7, true), (8, true), (9, true), (10, true), (11, true), (12, true), (13, true), (14, true), (15, true), (16, true), (17, true)]] else []
theorem ok129 : FnOk Tryz.prog 129 a129 := fnTr_ok (h := h129) (by kernel_rfl)
def h133 : Nat → List (List (Nat × Bool)) := fun r => if r = 3 then [[(0, true), (1, true), (2, true), (3, true), (4, true), (5, true), (6, true), (7, true), (8, true), (9, true), (10, true), (11, true), (12, true), (13, true), (14, true), (15, true)]] else []
theorem ok133 : FnOk Tryz.prog 133 a133 := fnTr_ok (h := h133) (by kernel_rfl)
def h137 : Nat → List (List (Nat × Bool)) := fun r => if r = 17 then [[(0, true), (1, true), (2, true), (3, true), (4, true), (5, true), (6, true), (7, true), (8, true), (9, true), (10, true), (11, true), (12, true), (13, true), (14, true)]] else []
theorem ok137 : FnOk Tryz.prog 137 a137 := fnTr_ok (h := h137) (by kernel_rfl)
def h141 : Nat → List (List (Nat × Bool)) := fun _ => []
theorem ok141 : FnOk Tryz.prog 141 a141 := fnTr_ok (h := h141) (by kernel_rfl)
def h145 : Nat → List (List (Nat × Bool)) := fun r => if r = 1 then [[(0, true), (1, true), (2, true), (3, true), (4, true), (5, true), (6, true), (7, true), (8, true), (9, true), (10, true), (11, true), (12, true), (13, true)]] else []
theorem ok145 : FnOk Tryz.prog 145 a145 := fnTr_ok (h := h145) (by kernel_rfl)
def h149 : Nat → List (List (Nat × Bool)) := fun _ => []
theorem ok149 : FnOk Tryz.prog 149 a149 := fnTr_ok (h := h149) (by kernel_rfl)
def h153 : Nat → List (List (Nat × Bool)) := fun r => if r = 3 then [[(0, true), (1, true), (2, true), (3, true), (4, true), (5, true), (6, true), (7, true), (8, true), (9, true), (10, true), (11, true), (12, true), (13, true), (14, true), (15, true), (16, true), (17, true), (18, true), (19, true), (20, true), (21, true)]] else if r = 5 then [[(0, true), (1, true), (2, true), (3, true), (4, true), (5, true), (6, true), (7, true), (8, true), (9, true), (10, true), (11, true), (12, true), (13, true), (14, true), (15, true)]] else if r = 6 then [[(0, true), (1, true), (2, true), (3, true), (4, true), (5, true), (6, true), (7, true), (8, true), (9, true), (10, true), (11, true), (12, true), (13, true), (14, true), (15, true), (16, true), (17, true), (18, true), (19, true), (20, true), (21, true), (22, true), (23, true)]] else []
theorem ok153 : FnOk Tryz.prog 153 a153 := fnTr_ok (h := h153) (by kernel_rfl)
def h157 : Nat → List (List (Nat × Bool)) := fun _ => []
theorem ok157 : FnOk Tryz.prog 157 a157 := fnTr_ok (h := h157) (by kernel_rfl)
def h161 : Nat → List (List (Nat × Bool)) := fun r => if r = 4 then [[(0, true), (1, true), (2, true), (3, true), (4, true), (5, true), (6, true), (7, true), (8, true), (9, true), (10, true), (11, true), (12, true), (13, true), (14, true)]] else if r = 6 then [[(0, true), (1, true), (2, true), (3, true), (4, true), (5, true), (6, true), (7, true), (8, true), (9, true), (10, true), (11, true), (12, true), (13, true), (14, true), (15, true), (16, true), (17, true)]] else []
theorem ok161 : FnOk Tryz.prog 161 a161 := fnTr_ok (h := h161) (by kernel_rfl)
def h165 : Nat → List (List (Nat × Bool)) := fun r => if r = 3 then [[(0, true), (1, true), (2, true), (3, true), (4, true), (5, true), (6, true), (7, true), (8, true), (9, true), (10, true), (11, true), (12, true), (13, true), (14, true), (15, true)]] else []
theorem ok165 : FnOk Tryz.prog 165 a165 := fnTr_ok (h := h165) (by kernel_rfl)
def h169 : Nat → List (List (Nat × Bool)) := fun r => if r = 1 then [[(0, true), (1, true), (2, true), (3, true), (4, true), (5, true), (6, true), (7, true), (8, true), (9, true), (10, true), (11, true), (12, true), (13, true), (14, true), (15, true)]] else if r = 3 then [[(0, true), (1, true), (2, true), (3, true), (4, true), (5, true), (6, true), (7, true), (8, true), (9, true), (10, true), (11, true), (12, true), (13, true)]] else if r = 5 then [[(0, true), (1, true), (2, true), (3, true), (4, true), (5, true), (6, true), (7, true), (8, true), (9, true), (10, true), (11, true), (12, true), (13, true), (14, true)]] else if r = 8 then [[(0, true), (1, true), (2, true), (3, true), (4, true), (5, true), (6, true), (7, true), (8, true), (9, true), (10, true), (11, true), (12, true), (13, true), (14, true), (15, true)]] else if r = 10 then [[(0, true), (1, true), (2, true), (3, true), (4, true), (5, true), (6, true), (7, true), (8, true), (9, true), (10, true), (11, true), (12, true), (13, true), (14, true), (15, true)]] else if r = 13 then [[(0, true), (1, true), (2, true), (3, true), (4, true), (5, true), (6, true), (7, true), (8, true), (9, true), (10, true), (11, true), (12, true), (13, true)]] else if r = 15 then [[(0, true), (1, true), (2, true), (3, true), (4, true), (5, true), (6, true), (7, true), (8, true), (9, true), (10, true), (11, true), (12, true), (13, true), (14, true)]] else if r = 18 then [[(0, true), (1, true), (2, true), (3, true), (4, true), (5, true), (6, true), (7, true), (8, true), (9, true), (10, true), (11, true), (12, true), (13, true), (14, true), (15, true)]] else if r = 21 then [[(0, true), (1, true), (2, true), (3, true), (4, true), (5, true), (6, true), (7, true), (8, true), (9, true), (10, true), (11, true), (12, true), (13, true), (14, true), (15, true)]] else []
theorem ok169 : FnOk Tryz.prog 169 a169 := fnTr_ok (h := h169) (by kernel_rfl)
def h173 : Nat → List (List (Nat × Bool)) := fun _ => []
theorem ok173 : FnOk Tryz.prog 173 a173 := fnTr_ok (h := h173) (by kernel_rfl)
def h177 : Nat → List (List (Nat × Bool)) := fun r => if r = 1 then [[(0, true), (1, true), (2, true), (3, true), (4, true), (5, true), (6, true), (7, true), (8, true), (9, true), (10, true), (11, true), (12, true), (13, true), (14, true), (15, true)]] else if r = 3 then [[(0, true), (1, true), (2, true), (3, true), (4, true), (5, true), (6, true), (7, true), (8, true), (9, true), (10, true), (11, true), (12, true), (13, true), (14, true)]] else if r = 5 then [[(0, true), (1, true), (2, true), (3, true), (4, true), (5, true), (6, true), (7, true), (8, true), (9, true), (10, true), (11, true), (12, true), (13, true)]] else if r = 8 then [[(0, true), (1, true), (2, true), (3, true), (4, true), (5, true), (6, true), (7, true), (8, true), (9, true), (10, true), (11, true), (12, true), (13, true), (14, true), (15, true)]] else []
theorem ok177 : FnOk Tryz.prog 177 a177 := fnTr_ok (h := h177) (by kernel_rfl)
def h181 : Nat → List (List (Nat × Bool)) := fun r => if r = 1 then [[(0, true), (1, true), (3, true), (2, true), (3, false), (4, true), (5, true), (6, true)]] else []
theorem ok181 : FnOk Tryz.prog 181 a181 := fnTr_ok (h := h181) (by kernel_rfl)
def h185 : Nat → List (List (Nat × Bool)) := fun _ => []
theorem ok185 : FnOk Tryz.prog 185 a185 := fnTr_ok (h := h185) (by kernel_rfl)
def h189 : Nat → List (List (Nat × Bool)) := fun r => if r = 3 then [[(0, true), (1, true), (2, true), (3, true), (4, true), (5, true), (6, true), (7, true), (8, true), (9, true), (10, true), (11, true), (12, true), (13, true), (14, true), (15, true), (16, true), (17, true), (18, true), (19, true)]] else if r = 5 then [[(0, true), (1, true), (2, true), (3, true), (4, true), (5, true), (6, true), (7, true), (8, true), (9, true), (10, true), (11, true), (12, true), (13, true)]] else if r = 6 then [[(0, true), (1, true), (2, true), (3, true), (4, true), (5, true), (6, true), (7, true), (8, true), (9, true), (10, true), (11, true), (12, true), (13, true), (14, true), (15, true), (16, true), (17, true), (18, true), (19, true), (20, true), (21, true), (22, true), (23, true)]] else []
theorem ok189 : FnOk Tryz.prog 189 a189 := fnTr_ok (h := h189) (by kernel_rfl)
def h193 : Nat → List (List (Nat × Bool)) := fun _ => []
theorem ok193 : FnOk Tryz.prog 193 a193 := fnTr_ok (h := h193) (by kernel_rfl)
def h198 : Nat → List (List (Nat × Bool)) := fun _ => []
theorem ok198 : FnOk Tryz.prog 198 a198 := fnTr_ok (h := h198) (by kernel_rfl)
def h203 : Nat → List (List (Nat × Bool)) := fun _ => []
theorem ok203 : FnOk Tryz.prog 203 a203 := fnTr_ok (h := h203) (by kernel_rfl)
def h208 : Nat → List (List (Nat × Bool)) := fun _ => []
theorem ok208 : FnOk Tryz.prog 208 a208 := fnTr_ok (h := h208) (by kernel_rfl)
def h212 : Nat → List (List (Nat × Bool)) := fun _ => []
theorem ok212 : FnOk Tryz.prog 212 a212 := fnTr_ok (h := h212) (by kernel_rfl)
def h216 : Nat → List (List (Nat × Bool)) := fun _ => []
theorem ok216 : FnOk Tryz.prog 216 a216 := fnTr_ok (h := h216) (by kernel_rfl)
def h220 : Nat → List (List (Nat × Bool)) := fun _ => []
theorem ok220 : FnOk Tryz.prog 220 a220 := fnTr_ok (h := h220) (by kernel_rfl)
end Rst
