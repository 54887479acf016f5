/- A verified abstract machine for this program, contracts of its functions, and rows: Alive4. -/
import Derived.Test.YtdpadejfbnbjiaaGreatDoorG
import Derived.Test.YtdpadejfbnbjiaaGreatDoorAlive2
import Derived.Test.YtdpadejfbnbjiaaGreatDoorAlive3
import Derived.KernelRfl
/- The closed calls behind 'alive', part 4: printed by a program. -/
set_option maxRecDepth 1000000
set_option maxHeartbeats 4000000
set_option linter.unusedVariables false
namespace Rst
open Go Go.Proofs
def TB5 : BT := (.n 90 (.ext g90) (.n 89 (.ext g89) .e .e) .e)
theorem TB5_ok : TOk Tryz.prog TB5.get := (bt_n ok90' (bt_n ok89' bt_e bt_e) bt_e)
def isSl (n : Nat) (vs : List AVal) : KV := fun v K => match v with
  | .slice (some (c, 0)) m cap 10 => Nat.beq m n && Nat.ble n cap && (match K.get c with
    | some (.cells true ws) => beqs ws vs
    | _ => false)
  | _ => false
def g55 : List AVal → AH → Option (AVal × AH)
  | [], H => some (.slice (some (H.next, 0)) 9 9 10, H.alloc (.cells true (entE.all smpl)))
  | _, _ => none
theorem r55 : bRun TB5.get a55 [] ⟨0, .e⟩ (isSl 9 (entE.all smpl)) = true := by kernel_rfl
theorem ok55' : ExtOk Tryz.prog 55 g55 := extOk_closed TB5_ok hmix ok55 fun args H u H2 hH hg => by
  unfold g55 at hg
  split at hg <;> try (cases hg; done)
  simp only [Option.some.injEq, Prod.mk.injEq] at hg
  obtain ⟨rfl, rfl⟩ := hg
  refine ⟨[], ⟨0, .e⟩, .flat _ rfl, rfl, bRun_ok r55 fun v K hv => ?_⟩
  unfold isSl at hv
  split at hv <;> try (cases hv; done)
  rename_i c m cap
  simp only [Bool.and_eq_true] at hv
  obtain ⟨⟨h1, h2⟩, h3⟩ := hv
  have h1 := Nat.eq_of_beq_eq_true h1
  have h2 := Nat.le_of_ble_eq_true h2
  subst h1
  split at h3 <;> try (cases h3; done)
  rename_i ws hw
  have := beqs_eq h3
  subst this
  exact .inr ⟨c, _, _, hw, List.prefix_refl _, entE.all_fl _, rfl, .slice _ _ _ _ _ _ _ rfl rfl (Nat.le_refl _) h2 (fun e => absurd e (by decide))⟩
def TB6 : BT := (.n 95 (.fn a95) (.n 59 (.fn a59) (.n 39 (.fn a39) (.n 33 (.fn a33) (.n 28 (.fn a28) (.n 17 (.fn a17) .e .e) .e) (.n 37 (.fn a37) (.n 35 (.fn a35) .e .e) .e)) (.n 56 (.fn a56) (.n 55 (.ext g55) (.n 43 (.fn a43) .e .e) .e) (.n 58 (.fn a58) (.n 57 (.fn a57) .e .e) .e))) (.n 73 (.fn a73) (.n 70 (.fn a70) (.n 69 (.fn a69) (.n 67 (.fn a67) .e .e) .e) (.n 72 (.fn a72) (.n 71 (.fn a71) .e .e) .e)) (.n 91 (.fn a91) (.n 82 (.fn a82) (.n 74 (.fn a74) .e .e) .e) (.n 93 (.fn a93) (.n 92 (.fn a92) .e .e) .e)))) (.n 123 (.fn a123) (.n 116 (.fn a116) (.n 98 (.fn a98) (.n 97 (.fn a97) (.n 96 (.fn a96) .e .e) .e) (.n 100 (.fn a100) (.n 99 (.fn a99) .e .e) .e)) (.n 120 (.fn a120) (.n 119 (.fn a119) (.n 118 (.fn a118) .e .e) .e) (.n 122 (.fn a122) (.n 121 (.fn a121) .e .e) .e))) (.n 153 (.fn a153) (.n 126 (.fn a126) (.n 125 (.fn a125) (.n 124 (.fn a124) .e .e) .e) (.n 128 (.fn a128) (.n 127 (.fn a127) .e .e) .e)) (.n 156 (.fn a156) (.n 155 (.fn a155) (.n 154 (.fn a154) .e .e) .e) (.n 187 (.fn a187) (.n 157 (.fn a157) .e .e) .e)))))
theorem TB6_ok : TOk Tryz.prog TB6.get := (bt_n ok95 (bt_n ok59 (bt_n ok39 (bt_n ok33 (bt_n ok28 (bt_n ok17 bt_e bt_e) bt_e) (bt_n ok37 (bt_n ok35 bt_e bt_e) bt_e)) (bt_n ok56 (bt_n ok55' (bt_n ok43 bt_e bt_e) bt_e) (bt_n ok58 (bt_n ok57 bt_e bt_e) bt_e))) (bt_n ok73 (bt_n ok70 (bt_n ok69 (bt_n ok67 bt_e bt_e) bt_e) (bt_n ok72 (bt_n ok71 bt_e bt_e) bt_e)) (bt_n ok91 (bt_n ok82 (bt_n ok74 bt_e bt_e) bt_e) (bt_n ok93 (bt_n ok92 bt_e bt_e) bt_e)))) (bt_n ok123 (bt_n ok116 (bt_n ok98 (bt_n ok97 (bt_n ok96 bt_e bt_e) bt_e) (bt_n ok100 (bt_n ok99 bt_e bt_e) bt_e)) (bt_n ok120 (bt_n ok119 (bt_n ok118 bt_e bt_e) bt_e) (bt_n ok122 (bt_n ok121 bt_e bt_e) bt_e))) (bt_n ok153 (bt_n ok126 (bt_n ok125 (bt_n ok124 bt_e bt_e) bt_e) (bt_n ok128 (bt_n ok127 bt_e bt_e) bt_e)) (bt_n ok156 (bt_n ok155 (bt_n ok154 bt_e bt_e) bt_e) (bt_n ok187 (bt_n ok157 bt_e bt_e) bt_e)))))
def g16 : List AVal → AH → Option (AVal × AH)
  | [], H => some (.bool true, H)
  | _, _ => none
theorem r16 : bRun TB6.get a16 [] ⟨0, .e⟩ (isE (.bool true)) = true := by kernel_rfl
theorem ok16' : ExtOk Tryz.prog 16 g16 := flat_case TB6_ok hmix ok16 fun args H u H2 hg => by
  unfold g16 at hg
  split at hg <;> try (cases hg; done)
  simp only [Option.some.injEq, Prod.mk.injEq] at hg
  obtain ⟨rfl, rfl⟩ := hg
  exact ⟨rfl, rfl, rfl, rfl, r16⟩
end Rst
