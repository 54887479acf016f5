/- A verified abstract machine for this program, contracts of its functions, and rows: PAok1. -/
import Derived.Test.YtdpadejfbnbjiaaGreatDoorF
import Derived.Test.YtdpadejfbnbjiaaGreatDoorPA0
import Derived.Test.YtdpadejfbnbjiaaGreatDoorPA1
import Derived.Test.YtdpadejfbnbjiaaGreatDoorPA2
import Derived.Test.YtdpadejfbnbjiaaGreatDoorPA3
import Derived.Test.YtdpadejfbnbjiaaGreatDoorProg
/- Each printed function is the translation of the program's, part 1. -/
set_option maxRecDepth 100000
namespace Rst
open Go Go.Proofs
def h4 : Nat → List (List (Nat × Bool)) := fun r => if r = 15 then [[(0, true), (1, true), (2, true), (3, true), (4, true), (5, true), (6, true), (7, true), (8, true)]] else if r = 23 then [[(0, true), (1, true), (2, true), (3, true), (4, true), (5, true), (6, true), (7, true), (8, true), (9, true), (10, true), (11, true), (12, true), (13, true), (14, true), (15, true), (16, true), (17, true), (18, true), (19, true), (20, true), (21, true), (22, true), (23, true), (24, true), (25, true), (26, true)]] else []
theorem ok4 : FnOk Tryz.prog 4 a4 := fnTr_ok (h := h4) (by kernel_rfl)
def h8 : Nat → List (List (Nat × Bool)) := fun r => if r = 3 then [[(0, true), (1, true), (2, true), (3, true), (5, true), (6, true), (7, true), (8, true), (4, true), (7, false), (9, true), (10, true), (11, true), (12, true), (13, true), (14, true), (15, true), (17, true), (18, true), (19, true), (16, true), (18, false), (20, true), (21, true), (22, true)]] else if r = 5 then [[(0, true), (1, true), (2, true), (3, true), (5, true), (6, true), (7, true), (8, true), (4, true), (7, false), (9, true), (10, true), (11, true), (12, true), (13, true), (14, true), (16, true), (17, true), (15, true), (18, true), (19, true), (20, true), (21, true)]] else []
theorem ok8 : FnOk Tryz.prog 8 a8 := fnTr_ok (h := h8) (by kernel_rfl)
def h12 : Nat → List (List (Nat × Bool)) := fun r => if r = 6 then [[(0, true), (1, true), (3, true), (4, true), (2, true), (3, false), (5, true), (6, true)]] else []
theorem ok12 : FnOk Tryz.prog 12 a12 := fnTr_ok (h := h12) (by kernel_rfl)
def h16 : Nat → List (List (Nat × Bool)) := fun _ => []
theorem ok16 : FnOk Tryz.prog 16 a16 := fnTr_ok (h := h16) (by kernel_rfl)
def h20 : Nat → List (List (Nat × Bool)) := fun _ => []
theorem ok20 : FnOk Tryz.prog 20 a20 := fnTr_ok (h := h20) (by kernel_rfl)
def h24 : Nat → List (List (Nat × Bool)) := fun _ => []
theorem ok24 : FnOk Tryz.prog 24 a24 := fnTr_ok (h := h24) (by kernel_rfl)
def h28 : Nat → List (List (Nat × Bool)) := fun r => if r = 1 then [[(0, true), (1, true), (3, true), (2, true), (3, false), (4, true), (5, true)]] else []
theorem ok28 : FnOk Tryz.prog 28 a28 := fnTr_ok (h := h28) (by kernel_rfl)
def h32 : Nat → List (List (Nat × Bool)) := fun r => if r = 6 then [[(0, true), (1, true), (2, true), (3, true), (4, true), (5, true), (6, true), (7, true), (8, true)]] else []
theorem ok32 : FnOk Tryz.prog 32 a32 := fnTr_ok (h := h32) (by kernel_rfl)
def h36 : Nat → List (List (Nat × Bool)) := fun _ => []
theorem ok36 : FnOk Tryz.prog 36 a36 := fnTr_ok (h := h36) (by kernel_rfl)
def h40 : Nat → List (List (Nat × Bool)) := fun _ => []
theorem ok40 : FnOk Tryz.prog 40 a40 := fnTr_ok (h := h40) (by kernel_rfl)
def h44 : Nat → List (List (Nat × Bool)) := fun _ => []
theorem ok44 : FnOk Tryz.prog 44 a44 := fnTr_ok (h := h44) (by kernel_rfl)
def h48 : Nat → List (List (Nat × Bool)) := fun r => if r = 6 then [[(0, true), (1, true), (2, true), (3, true), (4, true), (5, true), (6, true), (7, true), (8, true)]] else []
theorem ok48 : FnOk Tryz.prog 48 a48 := fnTr_ok (h := h48) (by kernel_rfl)
def h52 : Nat → List (List (Nat × Bool)) := fun _ => []
theorem ok52 : FnOk Tryz.prog 52 a52 := fnTr_ok (h := h52) (by kernel_rfl)
def h56 : Nat → List (List (Nat × Bool)) := fun _ => []
theorem ok56 : FnOk Tryz.prog 56 a56 := fnTr_ok (h := h56) (by kernel_rfl)
def h60 : Nat → List (List (Nat × Bool)) := fun _ => []
theorem ok60 : FnOk Tryz.prog 60 a60 := fnTr_ok (h := h60) (by kernel_rfl)
def h64 : Nat → List (List (Nat × Bool)) := fun _ => []
theorem ok64 : FnOk Tryz.prog 64 a64 := fnTr_ok (h := h64) (by kernel_rfl)
def h68 : Nat → List (List (Nat × Bool)) := fun _ => []
theorem ok68 : FnOk Tryz.prog 68 a68 := fnTr_ok (h := h68) (by kernel_rfl)
def h72 : Nat → List (List (Nat × Bool)) := fun r => if r = 6 then [[(0, true), (1, true), (2, true), (3, true), (4, true), (5, true), (6, true), (7, true), (8, true), (9, true)]] else if r = 11 then [[(0, true), (1, true), (2, true), (3, true), (4, true), (5, true), (6, true), (7, true), (8, true), (9, true)]] else []
theorem ok72 : FnOk Tryz.prog 72 a72 := fnTr_ok (h := h72) (by kernel_rfl)
def h76 : Nat → List (List (Nat × Bool)) := fun _ => []
theorem ok76 : FnOk Tryz.prog 76 a76 := fnTr_ok (h := h76) (by kernel_rfl)
def h80 : Nat → List (List (Nat × Bool)) := fun _ => []
theorem ok80 : FnOk Tryz.prog 80 a80 := fnTr_ok (h := h80) (by kernel_rfl)
def h84 : Nat → List (List (Nat × Bool)) := fun _ => []
theorem ok84 : FnOk Tryz.prog 84 a84 := fnTr_ok (h := h84) (by kernel_rfl)
def h88 : Nat → List (List (Nat × Bool)) := fun _ => []
theorem ok88 : FnOk Tryz.prog 88 a88 := fnTr_ok (h := h88) (by kernel_rfl)
def h92 : Nat → List (List (Nat × Bool)) := fun _ => []
theorem ok92 : FnOk Tryz.prog 92 a92 := fnTr_ok (h := h92) (by kernel_rfl)
def h96 : Nat → List (List (Nat × Bool)) := fun _ => []
theorem ok96 : FnOk Tryz.prog 96 a96 := fnTr_ok (h := h96) (by kernel_rfl)
def h100 : Nat → List (List (Nat × Bool)) := fun _ => []
theorem ok100 : FnOk Tryz.prog 100 a100 := fnTr_ok (h := h100) (by kernel_rfl)
def h104 : Nat → List (List (Nat × Bool)) := fun _ => []
theorem ok104 : FnOk Tryz.prog 104 a104 := fnTr_ok (h := h104) (by kernel_rfl)
def h108 : Nat → List (List (Nat × Bool)) := fun r => if r = 6 then [[(0, true), (1, true), (2, true), (3, true), (4, true), (5, true), (6, true), (7, true), (8, true)]] else []
theorem ok108 : FnOk Tryz.prog 108 a108 := fnTr_ok (h := h108) (by kernel_rfl)
def h112 : Nat → List (List (Nat × Bool)) := fun _ => []
theorem ok112 : FnOk Tryz.prog 112 a112 := fnTr_ok (h := h112) (by kernel_rfl)
def h116 : Nat → List (List (Nat × Bool)) := fun r => if r = 16 then [[(0, true), (1, true), (2, true), (1, false), (3, true)]] else []
theorem ok116 : FnOk Tryz.prog 116 a116 := fnTr_ok (h := h116) (by kernel_rfl)
def h120 : Nat → List (List (Nat × Bool)) := fun r => if r = 10 then [[(0, true), (1, true), (2, true), (3, true), (4, true), (5, true), (6, true), (7, true), (8, true), (9, true), (10, true), (11, true), (12, true), (13, true), (14, true), (15, true), (16, true), (17, true), (18, true), (19, true)]] else []
theorem ok120 : FnOk Tryz.prog 120 a120 := fnTr_ok (h := h120) (by kernel_rfl)
def h124 : Nat → List (List (Nat × Bool)) := fun r => if r = 1 then [[(0, true), (1, true), (2, true), (3, true), (4, true), (5, true), (6, true), (7, true), (8, true), (9, true), (10, true), (11, true), (12, true), (13, true), (14, true), (15, true)]] else if r = 3 then [[(0, true), (1, true), (2, true), (3, true), (4, true), (5, true), (6, true), (7, true), (8, true), (9, true), (10, true), (11, true), (12, true), (13, true), (14, true), (15, true), (16, true)]] else if r = 5 then [[(0, true), (1, true), (2, true), (3, true), (4, true), (5, true), (6, true), (7, true), (8, true), (9, true), (10, true), (11, true), (12, true), (13, true), (14, true), (15, true)]] else if r = 8 then [[(0, true), (1, true), (2, true), (3, true), (4, true), (5, true), (6, true), (7, true), (8, true), (9, true), (10, true), (11, true), (12, true), (13, true), (14, true), (15, true)]] else []
theorem ok124 : FnOk Tryz.prog 124 a124 := fnTr_ok (h := h124) (by kernel_rfl)
def h128 : Nat → List (List (Nat × Bool)) := fun _ => []
theorem ok128 : FnOk Tryz.prog 128 a128 := fnTr_ok (h := h128) (by kernel_rfl)
def h132 : Nat → List (List (Nat × Bool)) := fun _ => []
theorem ok132 : FnOk Tryz.prog 132 a132 := fnTr_ok (h := h132) (by kernel_rfl)
def h136 : Nat → List (List (Nat × Bool)) := fun r => if r = 1 then [[(0, true), (1, true), (2, true), (3, true), (4, true), (5, true), (6, true), (7, true), (8, true), (9, true), (10, true), (11, true), (12, true), (13, true), (14, true), (15, true)]] else if r = 3 then [[(0, true), (1, true), (2, true), (3, true), (4, true), (5, true), (6, true), (7, true), (8, true), (9, true), (10, true), (11, true), (12, true), (13, true), (14, true), (15, true)]] else if r = 5 then [[(0, true), (1, true), (2, true), (3, true), (4, true), (5, true), (6, true), (7, true), (8, true), (9, true), (10, true), (11, true), (12, true), (13, true), (14, true), (15, true), (16, true)]] else if r = 8 then [[(0, true), (1, true), (2, true), (3, true), (4, true), (5, true), (6, true), (7, true), (8, true), (9, true), (10, true), (11, true), (12, true), (13, true), (14, true), (15, true)]] else if r = 10 then [[(0, true), (1, true), (2, true), (3, true), (4, true), (5, true), (6, true), (7, true), (8, true), (9, true), (10, true), (11, true), (12, true), (13, true), (14, true), (15, true)]] else if r = 13 then [[(0, true), (1, true), (2, true), (3, true), (4, true), (5, true), (6, true), (7, true), (8, true), (9, true), (10, true), (11, true), (12, true), (13, true), (14, true), (15, true)]] else if r = 15 then [[(0, true), (1, true), (2, true), (3, true), (4, true), (5, true), (6, true), (7, true), (8, true), (9, true), (10, true), (11, true), (12, true), (13, true), (14, true), (15, true), (16, true)]] else if r = 18 then [[(0, true), (1, true), (2, true), (3, true), (4, true), (5, true), (6, true), (7, true), (8, true), (9, true), (10, true), (11, true), (12, true), (13, true), (14, true), (15, true)]] else if r = 21 then [[(0, true), (1, true), (2, true), (3, true), (4, true), (5, true), (6, true), (7, true), (8, true), (9, true), (10, true), (11, true), (12, true), (13, true), (14, true), (15, true)]] else []
theorem ok136 : FnOk Tryz.prog 136 a136 := fnTr_ok (h := h136) (by kernel_rfl)
def h140 : Nat → List (List (Nat × Bool)) := fun _ => []
theorem ok140 : FnOk Tryz.prog 140 a140 := fnTr_ok (h := h140) (by kernel_rfl)
def h144 : Nat → List (List (Nat × Bool)) := fun r => if r = 1 then [[(0, true), (1, true), (2, true), (3, true), (4, true), (5, true), (6, true), (7, true)]] else []
theorem ok144 : FnOk Tryz.prog 144 a144 := fnTr_ok (h := h144) (by kernel_rfl)
def h148 : Nat → List (List (Nat × Bool)) := fun r => if r = 1 then [[(0, true), (1, true), (2, true), (3, true), (4, true), (5, true), (6, true), (7, true), (8, true), (9, true), (10, true), (11, true), (12, true), (13, true), (14, true), (15, true), (16, true)]] else []
theorem ok148 : FnOk Tryz.prog 148 a148 := fnTr_ok (h := h148) (by kernel_rfl)
def h152 : Nat → List (List (Nat × Bool)) := fun _ => []
theorem ok152 : FnOk Tryz.prog 152 a152 := fnTr_ok (h := h152) (by kernel_rfl)
def h156 : Nat → List (List (Nat × Bool)) := fun _ => []
theorem ok156 : FnOk Tryz.prog 156 a156 := fnTr_ok (h := h156) (by kernel_rfl)
def h160 : Nat → List (List (Nat × Bool)) := fun _ => []
theorem ok160 : FnOk Tryz.prog 160 a160 := fnTr_ok (h := h160) (by kernel_rfl)
def h164 : Nat → List (List (Nat × Bool)) := fun _ => []
theorem ok164 : FnOk Tryz.prog 164 a164 := fnTr_ok (h := h164) (by kernel_rfl)
def h168 : Nat → List (List (Nat × Bool)) := fun r => if r = 1 then [[(0, true), (1, true), (2, true), (3, true), (4, true), (5, true), (6, true), (7, true), (8, true), (9, true), (10, true), (11, true), (12, true), (13, true), (14, true), (15, true)]] else if r = 3 then [[(0, true), (1, true), (2, true), (3, true), (4, true), (5, true), (6, true), (7, true), (8, true), (9, true), (10, true), (11, true), (12, true), (13, true), (14, true)]] else if r = 5 then [[(0, true), (1, true), (2, true), (3, true), (4, true), (5, true), (6, true), (7, true), (8, true), (9, true), (10, true), (11, true), (12, true), (13, true)]] else if r = 8 then [[(0, true), (1, true), (2, true), (3, true), (4, true), (5, true), (6, true), (7, true), (8, true), (9, true), (10, true), (11, true), (12, true), (13, true), (14, true), (15, true)]] else []
theorem ok168 : FnOk Tryz.prog 168 a168 := fnTr_ok (h := h168) (by kernel_rfl)
def h172 : Nat → List (List (Nat × Bool)) := fun r => if r = 10 then [[(0, true), (1, true), (2, true), (3, true), (4, true), (5, true), (6, true), (7, true), (8, true), (9, true), (10, true), (11, true), (12, true), (13, true), (14, true), (15, true), (16, true), (17, true), (18, true), (19, true)]] else []
theorem ok172 : FnOk Tryz.prog 172 a172 := fnTr_ok (h := h172) (by kernel_rfl)
def h176 : Nat → List (List (Nat × Bool)) := fun _ => []
theorem ok176 : FnOk Tryz.prog 176 a176 := fnTr_ok (h := h176) (by kernel_rfl)
def h180 : Nat → List (List (Nat × Bool)) := fun _ => []
theorem ok180 : FnOk Tryz.prog 180 a180 := fnTr_ok (h := h180) (by kernel_rfl)
def h184 : Nat → List (List (Nat × Bool)) := fun _ => []
theorem ok184 : FnOk Tryz.prog 184 a184 := fnTr_ok (h := h184) (by kernel_rfl)
def h188 : Nat → List (List (Nat × Bool)) := fun r => if r = 1 then [[(0, true), (1, true), (2, true), (3, true), (4, true), (5, true), (6, true), (7, true), (8, true), (9, true), (10, true)]] else []
theorem ok188 : FnOk Tryz.prog 188 a188 := fnTr_ok (h := h188) (by kernel_rfl)
def h192 : Nat → List (List (Nat × Bool)) := fun r => if r = 3 then [[(0, true), (1, true), (2, true), (3, true), (4, true), (5, true), (6, true), (7, true), (8, true), (9, true), (10, true), (11, true), (12, true), (13, true), (14, true), (15, true), (16, true), (17, true), (18, true), (19, true)]] else if r = 5 then [[(0, true), (1, true), (2, true), (3, true), (4, true), (5, true), (6, true), (7, true), (8, true), (9, true), (10, true), (11, true), (12, true), (13, true)]] else if r = 6 then [[(0, true), (1, true), (2, true), (3, true), (4, true), (5, true), (6, true), (7, true), (8, true), (9, true), (10, true), (11, true), (12, true), (13, true), (14, true), (15, true), (16, true), (17, true), (18, true), (19, true), (20, true), (21, true), (22, true), (23, true)]] else []
theorem ok192 : FnOk Tryz.prog 192 a192 := fnTr_ok (h := h192) (by kernel_rfl)
def h196 : Nat → List (List (Nat × Bool)) := fun _ => []
theorem ok196 : FnOk Tryz.prog 196 a196 := fnTr_ok (h := h196) (by kernel_rfl)
def h202 : Nat → List (List (Nat × Bool)) := fun _ => []
theorem ok202 : FnOk Tryz.prog 202 a202 := fnTr_ok (h := h202) (by kernel_rfl)
def h206 : Nat → List (List (Nat × Bool)) := fun r => if r = 1 then [[(0, true), (1, true), (2, true), (3, true), (4, true), (5, true), (6, true), (7, true), (8, true)]] else []
theorem ok206 : FnOk Tryz.prog 206 a206 := fnTr_ok (h := h206) (by kernel_rfl)
def h211 : Nat → List (List (Nat × Bool)) := fun _ => []
theorem ok211 : FnOk Tryz.prog 211 a211 := fnTr_ok (h := h211) (by kernel_rfl)
def h215 : Nat → List (List (Nat × Bool)) := fun _ => []
theorem ok215 : FnOk Tryz.prog 215 a215 := fnTr_ok (h := h215) (by kernel_rfl)
def h219 : Nat → List (List (Nat × Bool)) := fun _ => []
theorem ok219 : FnOk Tryz.prog 219 a219 := fnTr_ok (h := h219) (by kernel_rfl)
end Rst
