/- A verified abstract machine for this program, contracts of its functions, and rows: RowP, RowQ. -/
import Derived.Test.YtdpadejfbnbjiaaGreatDoorH
import Derived.Test.YtdpadejfbnbjiaaGreatDoorG
import Derived.Test.YtdpadejfbnbjiaaGreatDoorRows
import Derived.Test.YtdpadejfbnbjiaaGreatDoorTie
import Derived.Test.YtdpadejfbnbjiaaGreatDoorCards
import Derived.SizedLaws
/- Rows of the people's laws: the arguments. -/
set_option linter.unusedVariables false
set_option maxRecDepth 100000
namespace Rst
open Go Go.Proofs Go.ChangeShapes Go.WideShapes Go.ChangeAt Go.RowKit
theorem own : ownKnob Tryz.prog.godebug = none := by kernel_rfl
theorem laidOut : laidOutB Tryz.prog = true := by kernel_rfl
theorem cells41 : Tryz.prog.cellsOf 41 = 10 := by kernel_rfl
theorem bytes41 : Tryz.prog.bytesOf 41 = 88 := by kernel_rfl
theorem open_ents {H : Type} {enc : TypeId × Value → H} {W : World} {base : Nat} {v : Value} {d : DataW H} {p : List MemPlace} (h : DataW.Trod enc Tryz.prog W 0 (fun _ => true) true 22 v d p) (hv : Value.okWide Tryz.prog W .any base 22 v)
    (hw : ∀ elems spare, d = .slice elems spare → (elems.length + spare.length) * Tryz.prog.bytesOf 41 ≤ reachBytes) {ι : Inj} {H0 : AH} (L : Laid (CRl Tryz.prog) W ι H0) :
    ∃ ι' H' s es, ι.le ι' ∧ Laid (CRl Tryz.prog) W ι' H' ∧ (∀ b, b < H0.next → H'.get b = H0.get b) ∧ H0.next ≤ H'.next ∧ Sl entE H' s es ∧ VRel ι' s v := by
  have hok : Cell.okWide Tryz.prog W .any base 22 v := by
    unfold Value.okWide at hv
    rw [Tryz.underlying22] at hv
    exact hv
  have hok2 : Cell.ok Tryz.prog W .any base 22 v := by
    unfold Cell.okWide at hok
    rw [Tryz.underlying22] at hok
    exact hok
  obtain ⟨fuel, hf⟩ := h
  have hcells : v.cells.toList = [v] := by
    unfold Cell.ok at hok2
    rw [Tryz.underlying22] at hok2
    cases v <;> first | rfl | exact hok2.elim
  rw [hcells] at hf
  rcases open_fields Tryz.underlying22 Tryz.underlying41 (by kernel_rfl) cells41 hf with ⟨h1, _⟩ | ⟨a, len, cap, m, elems, sp, h1, hlc, hm, hx, hel, hi⟩
  · injection h1 with h1
    subst h1
    exact ⟨ι, H0, .slice none 0 0 0, [], Inj.le.refl _, L, fun _ _ => rfl, Nat.le_refl _, Sl.nil, .sliceN 0⟩
  · injection h1 with h1
    subst h1
    have hb := hw elems sp hx
    rw [bytes41, hel] at hb
    have hbb : len * entE.bytes ≤ 140737488355328 := by
      rw [entE_bytes]
      have : reachBytes = 140737488351232 := rfl
      have := Nat.mul_le_mul_right 88 (Nat.le_add_right len sp.length)
      omega
    have hhas : W.has Tryz.prog .any base a 41 cap := by
      unfold Cell.ok at hok2
      rw [Tryz.underlying22] at hok2
      exact hok2.2.2
    simp only [if_true] at hm
    subst hm
    obtain ⟨ι', H', s, xs, q1, q2, q3, q4, q5, _, q7⟩ := L.slice entE hhas hlc hbb (fun i hic => by
      obtain ⟨n, hf⟩ := hi i hic
      obtain ⟨v0, y0, c0, r0⟩ := hf 0 _ rfl
      obtain ⟨v1, y1, c1, r1⟩ := hf 1 _ rfl
      obtain ⟨v2, y2, c2, r2⟩ := hf 2 _ rfl
      obtain ⟨v3, y3, c3, r3⟩ := hf 3 _ rfl
      obtain ⟨v4, y4, c4, r4⟩ := hf 4 _ rfl
      obtain ⟨v5, y5, c5, r5⟩ := hf 5 _ rfl
      obtain ⟨v6, y6, c6, r6⟩ := hf 6 _ rfl
      obtain ⟨v7, y7, c7, r7⟩ := hf 7 _ rfl
      obtain ⟨v8, y8, c8, r8⟩ := hf 8 _ rfl
      obtain ⟨v9, y9, c9, r9⟩ := hf 9 _ rfl
      obtain ⟨n0, e0, _⟩ := DataW.trod_int Tryz.underlying3 r0
      obtain ⟨n1, e1, _⟩ := DataW.trod_int Tryz.underlying5 r1
      obtain ⟨n2, e2, _⟩ := DataW.trod_int Tryz.underlying3 r2
      obtain ⟨n3, e3, _⟩ := DataW.trod_int Tryz.underlying3 r3
      obtain ⟨n4, e4, _⟩ := DataW.trod_int Tryz.underlying3 r4
      obtain ⟨n5, e5, _⟩ := DataW.trod_int Tryz.underlying3 r5
      obtain ⟨n6, e6, _⟩ := DataW.trod_int Tryz.underlying3 r6
      obtain ⟨n7, e7, _⟩ := DataW.trod_int Tryz.underlying3 r7
      obtain ⟨n8, e8, _⟩ := DataW.trod_int Tryz.underlying3 r8
      obtain ⟨s9, e9, _⟩ := DataW.trod_string Tryz.underlying9 r9
      injection e0 with e0; injection e1 with e1; injection e2 with e2; injection e3 with e3; injection e4 with e4
      injection e5 with e5; injection e6 with e6; injection e7 with e7; injection e8 with e8; injection e9 with e9
      subst e0 e1 e2 e3 e4 e5 e6 e7 e8 e9
      refine ⟨⟨n0, n1, n2, n3, n4, n5, n6, n7, n8, s9.data.toList.map (·.toNat)⟩, fun j v hj => ?_⟩
      match j, hj with
      | 0, hj => injection hj with hj; subst hj; exact ⟨_, c0, fun ι => .int _ _⟩
      | 1, hj => injection hj with hj; subst hj; exact ⟨_, c1, fun ι => .int _ _⟩
      | 2, hj => injection hj with hj; subst hj; exact ⟨_, c2, fun ι => .int _ _⟩
      | 3, hj => injection hj with hj; subst hj; exact ⟨_, c3, fun ι => .int _ _⟩
      | 4, hj => injection hj with hj; subst hj; exact ⟨_, c4, fun ι => .int _ _⟩
      | 5, hj => injection hj with hj; subst hj; exact ⟨_, c5, fun ι => .int _ _⟩
      | 6, hj => injection hj with hj; subst hj; exact ⟨_, c6, fun ι => .int _ _⟩
      | 7, hj => injection hj with hj; subst hj; exact ⟨_, c7, fun ι => .int _ _⟩
      | 8, hj => injection hj with hj; subst hj; exact ⟨_, c8, fun ι => .int _ _⟩
      | 9, hj => injection hj with hj; subst hj; exact ⟨_, c9, fun ι => .str _ _ rfl⟩
      | j + 10, hj => cases hj)
    exact ⟨ι', H', s, xs, q1, q2, q3, q4, q5, q7⟩
end Rst
/- Rows of the people's laws: what is common to all. -/
set_option linter.unusedVariables false
set_option maxRecDepth 100000
namespace Rst
open Go Go.Proofs Go.ChangeShapes Go.WideShapes Go.ChangeAt Go.RowKit Go.Proofs.YtdpadejfbnbjiaaGreatDoor
abbrev laidL {H : Type} : List (String × DataW H) := [("math/bits.deBruijn32tab", Rows.laid_math_bits_deBruijn32tab), ("math/bits.deBruijn64tab", Rows.laid_math_bits_deBruijn64tab), ("internal/strconv.uint64pow10", Rows.laid_internal_strconv_uint64pow10), ("strconv.ErrRange", Rows.laid_strconv_ErrRange), ("strconv.ErrSyntax", Rows.laid_strconv_ErrSyntax)]
theorem door_met (os : Os) (args : Array Value) : laidMetH Tryz.prog laidL ((World.doorLaid Tryz.prog 62 os).forCall (fun _ _ => 0) ⟨#[], args, []⟩).memory :=
  laidMetH_of_parts3 (fuel := 8) (laidMet_of_run' 8 (by kernel_rfl) (by kernel_rfl)) (by kernel_rfl) (by kernel_rfl)
theorem und4 : Tryz.prog.underlying 4 = some .bool := Tryz.underlying4
theorem types_ok : (∀ t ∈ [22, 24, 3, 9, 29], Tryz.prog.readableRec t = true ∧ t < Tryz.prog.types.size) := by
  intro t ht
  have h : ([22, 24, 3, 9, 29].all fun t => Tryz.prog.readableRec t && decide (t < Tryz.prog.types.size)) = true := by kernel_rfl
  have := List.all_eq_true.1 h t ht
  simpa using this
end Rst
