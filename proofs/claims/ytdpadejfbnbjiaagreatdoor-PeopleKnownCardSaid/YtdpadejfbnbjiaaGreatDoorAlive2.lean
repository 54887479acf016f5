/- A verified abstract machine for this program, contracts of its functions, and rows: Alive2. -/
import Derived.Test.YtdpadejfbnbjiaaGreatDoorG
import Derived.Test.YtdpadejfbnbjiaaGreatDoorAlive1
import Derived.KernelRfl
/- The closed calls behind 'alive', part 2: printed by a program. -/
set_option maxRecDepth 1000000
set_option maxHeartbeats 4000000
set_option linter.unusedVariables false
namespace Rst
open Go Go.Proofs
def TB3 : BT := (.n 184 (.fn a184) (.n 144 (.fn a144) (.n 127 (.fn a127) (.n 112 (.fn a112) (.n 111 (.fn a111) (.n 110 (.fn a110) .e .e) .e) (.n 114 (.ext g114) (.n 113 (.fn a113) .e .e) .e)) (.n 141 (.fn a141) (.n 140 (.fn a140) (.n 139 (.fn a139) .e .e) .e) (.n 143 (.fn a143) (.n 142 (.fn a142) .e .e) .e))) (.n 179 (.fn a179) (.n 147 (.fn a147) (.n 146 (.fn a146) (.n 145 (.fn a145) .e .e) .e) (.n 150 (.fn a150) (.n 148 (.fn a148) .e .e) .e)) (.n 182 (.fn a182) (.n 181 (.fn a181) (.n 180 (.fn a180) .e .e) .e) (.n 183 (.fn a183) .e .e)))) (.n 210 (.fn a210) (.n 202 (.fn a202) (.n 198 (.fn a198) (.n 196 (.fn a196) (.n 186 (.fn a186) .e .e) .e) (.n 200 (.fn a200) (.n 199 (.fn a199) .e .e) .e)) (.n 208 (.fn a208) (.n 207 (.ext extIndexByte) (.n 204 (.fn a204) .e .e) .e) (.n 209 (.fn a209) .e .e))) (.n 217 (.fn a217) (.n 214 (.fn a214) (.n 213 (.fn a213) (.n 212 (.fn a212) .e .e) .e) (.n 216 (.fn a216) (.n 215 (.fn a215) .e .e) .e)) (.n 220 (.fn a220) (.n 219 (.fn a219) (.n 218 (.fn a218) .e .e) .e) (.n 221 (.fn a221) .e .e)))))
theorem TB3_ok : TOk Tryz.prog TB3.get := (bt_n ok184 (bt_n ok144 (bt_n ok127 (bt_n ok112 (bt_n ok111 (bt_n ok110 bt_e bt_e) bt_e) (bt_n ok114' (bt_n ok113 bt_e bt_e) bt_e)) (bt_n ok141 (bt_n ok140 (bt_n ok139 bt_e bt_e) bt_e) (bt_n ok143 (bt_n ok142 bt_e bt_e) bt_e))) (bt_n ok179 (bt_n ok147 (bt_n ok146 (bt_n ok145 bt_e bt_e) bt_e) (bt_n ok150 (bt_n ok148 bt_e bt_e) bt_e)) (bt_n ok182 (bt_n ok181 (bt_n ok180 bt_e bt_e) bt_e) (bt_n ok183 bt_e bt_e)))) (bt_n ok210 (bt_n ok202 (bt_n ok198 (bt_n ok196 (bt_n ok186 bt_e bt_e) bt_e) (bt_n ok200 (bt_n ok199 bt_e bt_e) bt_e)) (bt_n ok208 (bt_n ok207 (bt_n ok204 bt_e bt_e) bt_e) (bt_n ok209 bt_e bt_e))) (bt_n ok217 (bt_n ok214 (bt_n ok213 (bt_n ok212 bt_e bt_e) bt_e) (bt_n ok216 (bt_n ok215 bt_e bt_e) bt_e)) (bt_n ok220 (bt_n ok219 (bt_n ok218 bt_e bt_e) bt_e) (bt_n ok221 bt_e bt_e)))))
theorem r89x0 : bRun TB3.get a89 [.str [48, 32, 110, 97, 109, 101, 32, 49, 32, 48, 32, 48, 32, 97, 110, 110, 32, 108, 101, 101]] ⟨0, .e⟩ (isE (.tup [.agg (encE (⟨0, 1, 0, 0, 1, 0, 0, 0, 0, [97, 110, 110, 32, 108, 101, 101]⟩ : Ent)), .int .i64 0])) = true := by kernel_rfl
theorem r89x1 : bRun TB3.get a89 [.str [48, 32, 110, 97, 109, 101, 32, 50, 32, 48, 32, 48, 32, 98, 111, 98, 32, 108, 101, 101]] ⟨0, .e⟩ (isE (.tup [.agg (encE (⟨0, 1, 0, 0, 2, 0, 0, 0, 0, [98, 111, 98, 32, 108, 101, 101]⟩ : Ent)), .int .i64 0])) = true := by kernel_rfl
theorem r89x2 : bRun TB3.get a89 [.str [48, 32, 108, 105, 118, 101, 32, 49, 32, 55, 32, 48, 32, 53, 48]] ⟨0, .e⟩ (isE (.tup [.agg (encE (⟨0, 2, 0, 50, 1, 7, 0, 0, 0, []⟩ : Ent)), .int .i64 0])) = true := by kernel_rfl
theorem r89x3 : bRun TB3.get a89 [.str [48, 32, 108, 105, 118, 101, 32, 50, 32, 56, 32, 48, 32, 48]] ⟨0, .e⟩ (isE (.tup [.agg (encE (⟨0, 2, 0, 0, 2, 8, 0, 0, 0, []⟩ : Ent)), .int .i64 0])) = true := by kernel_rfl
theorem r89x4 : bRun TB3.get a89 [.str [52, 48, 32, 108, 105, 118, 101, 32, 49, 32, 57, 32, 53, 48, 32, 48]] ⟨0, .e⟩ (isE (.tup [.agg (encE (⟨40, 2, 50, 0, 1, 9, 0, 0, 0, []⟩ : Ent)), .int .i64 0])) = true := by kernel_rfl
theorem r89x5 : bRun TB3.get a89 [.str [52, 48, 32, 114, 101, 100, 105, 114, 101, 99, 116, 32, 53, 32, 49, 32, 55, 32, 49, 32, 48, 32, 53, 48, 32, 56, 48]] ⟨0, .e⟩ (isE (.tup [.agg (encE (⟨40, 5, 50, 80, 1, 7, 1, 0, 5, []⟩ : Ent)), .int .i64 0])) = true := by kernel_rfl
theorem r89x6 : bRun TB3.get a89 [.str [54, 48, 32, 100, 101, 97, 116, 104, 32, 50, 32, 54, 48]] ⟨0, .e⟩ (isE (.tup [.agg (encE (⟨60, 3, 60, 0, 2, 0, 0, 0, 0, []⟩ : Ent)), .int .i64 0])) = true := by kernel_rfl
theorem r89x7 : bRun TB3.get a89 [.str [54, 48, 32, 104, 101, 105, 114, 32, 50, 32, 49, 32, 54, 48, 32, 48]] ⟨0, .e⟩ (isE (.tup [.agg (encE (⟨60, 4, 60, 0, 2, 0, 1, 0, 0, []⟩ : Ent)), .int .i64 0])) = true := by kernel_rfl
theorem r89x8 : bRun TB3.get a89 [.str [55, 48, 32, 114, 101, 102, 117, 115, 101, 32, 49, 32, 57, 32, 50, 32, 55, 48, 32, 55, 53]] ⟨0, .e⟩ (isE (.tup [.agg (encE (⟨70, 7, 70, 75, 1, 9, 2, 0, 0, []⟩ : Ent)), .int .i64 0])) = true := by kernel_rfl
theorem r89xall (i : Nat) (e : Ent) (l : List Nat) (h1 : smpl[i]? = some e) (h2 : slines[i]? = some l) : bRun TB3.get a89 [.str l] ⟨0, .e⟩ (isE (.tup [.agg (encE e), .int .i64 0])) = true := by
  match i, h1, h2 with
  | 0, h1, h2 => injection h1 with h1; injection h2 with h2; subst h1 h2; exact r89x0
  | 1, h1, h2 => injection h1 with h1; injection h2 with h2; subst h1 h2; exact r89x1
  | 2, h1, h2 => injection h1 with h1; injection h2 with h2; subst h1 h2; exact r89x2
  | 3, h1, h2 => injection h1 with h1; injection h2 with h2; subst h1 h2; exact r89x3
  | 4, h1, h2 => injection h1 with h1; injection h2 with h2; subst h1 h2; exact r89x4
  | 5, h1, h2 => injection h1 with h1; injection h2 with h2; subst h1 h2; exact r89x5
  | 6, h1, h2 => injection h1 with h1; injection h2 with h2; subst h1 h2; exact r89x6
  | 7, h1, h2 => injection h1 with h1; injection h2 with h2; subst h1 h2; exact r89x7
  | 8, h1, h2 => injection h1 with h1; injection h2 with h2; subst h1 h2; exact r89x8
  | i + 9, h1, h2 => cases h1
theorem ok89' : ExtOk Tryz.prog 89 g89 := flat_case TB3_ok hmix ok89 fun args H u H2 hg => by
  unfold g89 at hg
  split at hg <;> try (cases hg; done)
  split at hg <;> try (cases hg; done)
  rename_i s _ e hs
  simp only [Option.some.injEq, Prod.mk.injEq] at hg
  obtain ⟨rfl, rfl⟩ := hg
  obtain ⟨i, h1, h2⟩ := lookL_some _ _ hs
  exact ⟨rfl, rfl, rfl, rfl, r89xall i e s h1 h2⟩
end Rst
