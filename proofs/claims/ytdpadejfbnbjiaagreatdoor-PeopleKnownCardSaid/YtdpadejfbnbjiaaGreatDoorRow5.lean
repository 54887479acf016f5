/- A verified abstract machine for this program, contracts of its functions, and rows: Row5. -/
import Derived.Test.YtdpadejfbnbjiaaGreatDoorPR
import Derived.Test.YtdpadejfbnbjiaaGreatDoorLaw5
/- PeopleKnown: the row and its card. -/
set_option linter.unusedVariables false
set_option maxRecDepth 100000
namespace Rst
open Go Go.Proofs Go.ChangeShapes Go.WideShapes Go.ChangeAt Go.RowKit Go.Proofs.YtdpadejfbnbjiaaGreatDoor
theorem lifted5 (os : Os) (started : os.Started) (H : Type) (enc : TypeId × Value → H) :
    ReturnsInHanded {} Tryz.checked os 5 .any (fun w args => (Rows.peopleKnownSpec.pre enc Tryz.prog Tryz.f5 [] false w args ∧ laidMetH Tryz.prog laidL w) ∧ sizedMet enc Tryz.prog Tryz.f5 (OpenSpec.ofChange Rows.peopleKnownSpec) false w args)
      (Rows.peopleKnownSpec.post enc Tryz.prog Tryz.f5 false true false false) := by
  refine returnsInHanded_of_change_and (C := Tryz.checked) (X := fun w _ => laidMetH Tryz.prog laidL w) (fun _ _ _ hh h => h.of_heap hh) own started (by kernel_rfl) Tryz.func5
    (ChangeSpec.witness_shaped (enc := enc) (C := Tryz.checked) (os := os) (X := fun w _ => laidMetH Tryz.prog laidL w) false (World.doorLaid Tryz.prog 62 os) #[.slice none 0 0, .int .i64 0, .int .i64 0] 8 rfl (World.shaped_of_RefB (by kernel_rfl) (by kernel_rfl)) (by kernel_rfl) (by kernel_rfl) (by kernel_rfl) (door_met os _)) ?_
  intro W base args ds gs before hval0 hW _ hsz _ _
  have hval : ∀ (j : Nat) t v, Tryz.f5.params[j]? = some t → args[j]? = some v → Value.okWide Tryz.prog W .any base t v := hval0
  have hW' := hW
  obtain ⟨p, q, hA0, hV, rfl, hfz, hnd⟩ := hW
  have hA : DataW.TrodAll enc Tryz.prog W 0 (fun _ => true) true Tryz.f5.params.toList args.toList ds p := hA0
  rw [Tryz.params5] at hA hval
  obtain ⟨v0, v1, v2, d0, d1, d2, p0, p1, p2, rfl, rfl, rfl, h0, h1, h2⟩ := trodAll_three hA
  obtain ⟨rfl, rfl⟩ := trodVars_none hV
  obtain ⟨a, rfl, rfl, rfl, wa⟩ := open_int Tryz.underlying3 (hval 1 3 v1 rfl rfl) h1
  obtain ⟨b, rfl, rfl, rfl, wb⟩ := open_int Tryz.underlying3 (hval 2 3 v2 rfl rfl) h2
  obtain ⟨ι, K, s, es, _, L, _, _, hs, hr⟩ := open_ents h0 (hval 0 22 v0 rfl rfl) (fun elems spare e => by
    subst e
    exact sized_slice hsz (j := 0) (by rw [Tryz.params5]; rfl) rfl Tryz.underlying22) (Laid.start _ W)
  have hpar : ∀ t ∈ Tryz.f5.params.toList, Tryz.prog.readableRec t = true ∧ t < Tryz.prog.types.size := by
    intro t ht
    rw [Tryz.params5] at ht
    have ht : t ∈ [22, 3, 3] := ht
    simp only [List.mem_cons, List.not_mem_nil, or_false] at ht
    rcases ht with rfl | rfl | rfl <;> exact types_ok _ (by simp)
  refine (calls_of_ext ok5 ok5' (g5_eq hs) L.rel (args' := [v0, .int .i64 a, .int .i64 b]) (.cons _ _ _ _ hr (.cons _ _ _ _ (.int _ _) (.cons _ _ _ _ (.int _ _) .nil)))).mono fun e W' ⟨he, hbl⟩ => ?_
  subst he
  exact ⟨_, rfl, law_post laidOut hpar (tb := 4) rfl und4 rfl hW' rfl hbl⟩
theorem row5 : Rows.PeopleKnownSaid :=
  OpenClaim.holds_of_wide 5 Tryz.f5 rfl rfl rfl rfl rfl rfl rfl ⟨rfl, rfl, rfl, rfl, rfl⟩ rfl rfl rfl rfl rfl (by kernel_rfl) Tryz.func5 (by kernel_rfl)
    (of_decide_eq_true (by kernel_rfl)) (by unfold Func.isWrapper; first | (rw [if_pos (by decide +kernel)]; kernel_rfl) | (rw [if_neg (by decide +kernel)]; exact ⟨rfl, rfl⟩))
    (fun os started H enc _ => lifted5 os started H enc)
theorem card5 : Rows.PeopleKnownCardSaid :=
  Claim7.holds_tied_plain_at .later [] [.data, .data, .data, .sentinel, .sentinel] true (true, "5b12e78da8c926071e02cfaed0071cc418316bcd3597d125f879808cb641f3f2") true
    row5 (fun _ h => by cases h) (by kernel_rfl) (fun _ h => by cases h) peopleKnown_row_tie rfl ⟨rfl, rfl⟩ (by kernel_rfl) rfl
    (fun f fn hf hfn => by
      obtain rfl : f = 5 := Option.some.inj ((show Tryz.prog.funcNamed "restante/restantelaw03.PeopleKnown" = some 5 by kernel_rfl).symm.trans hf) |>.symm
      obtain rfl : fn = Tryz.f5 := (Option.some.inj (Tryz.func5.symm.trans hfn)).symm
      exact ⟨by kernel_rfl, fun j t ht => by
        rw [Tryz.params5] at ht
        have h : ([22, 3, 3].all fun t => !Tryz.prog.wantsStandIn t) = true := by kernel_rfl
        have hm : t ∈ [22, 3, 3] := by
          have := Array.mem_of_getElem? ht
          simpa using this
        have := List.all_eq_true.1 h t hm
        show Tryz.prog.wantsStandIn t = false
        simpa using this⟩)
    (by kernel_rfl)
end Rst
