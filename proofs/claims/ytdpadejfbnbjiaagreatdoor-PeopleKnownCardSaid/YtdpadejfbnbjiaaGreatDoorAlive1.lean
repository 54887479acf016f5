/- A verified abstract machine for this program, contracts of its functions, and rows: Alive1. -/
import Derived.Test.YtdpadejfbnbjiaaGreatDoorG
import Derived.Test.YtdpadejfbnbjiaaGreatDoorPA0
import Derived.Test.YtdpadejfbnbjiaaGreatDoorPA1
import Derived.Test.YtdpadejfbnbjiaaGreatDoorPA2
import Derived.Test.YtdpadejfbnbjiaaGreatDoorPA3
import Derived.Test.YtdpadejfbnbjiaaGreatDoorPAok0
import Derived.Test.YtdpadejfbnbjiaaGreatDoorPAok1
import Derived.Test.YtdpadejfbnbjiaaGreatDoorPAok2
import Derived.Test.YtdpadejfbnbjiaaGreatDoorPAok3
import Derived.KernelRfl
/- The closed calls behind 'alive', part 1: printed by a program. -/
set_option maxRecDepth 1000000
set_option maxHeartbeats 4000000
set_option linter.unusedVariables false
namespace Rst
open Go Go.Proofs
theorem hmix : Tryz.prog.follows .mixedOrders = true := by kernel_rfl
theorem ok207 : ExtOk Tryz.prog 207 extIndexByte := extIndex_ok (fn := Tryz.f207) (by kernel_rfl) (by kernel_rfl) (by kernel_rfl) (by kernel_rfl) (by kernel_rfl)
def smpl : List Ent := [⟨0, 1, 0, 0, 1, 0, 0, 0, 0, [97, 110, 110, 32, 108, 101, 101]⟩,
 ⟨0, 1, 0, 0, 2, 0, 0, 0, 0, [98, 111, 98, 32, 108, 101, 101]⟩,
 ⟨0, 2, 0, 50, 1, 7, 0, 0, 0, []⟩,
 ⟨0, 2, 0, 0, 2, 8, 0, 0, 0, []⟩,
 ⟨40, 2, 50, 0, 1, 9, 0, 0, 0, []⟩,
 ⟨40, 5, 50, 80, 1, 7, 1, 0, 5, []⟩,
 ⟨60, 3, 60, 0, 2, 0, 0, 0, 0, []⟩,
 ⟨60, 4, 60, 0, 2, 0, 1, 0, 0, []⟩,
 ⟨70, 7, 70, 75, 1, 9, 2, 0, 0, []⟩]
def slines : List (List Nat) := [[48, 32, 110, 97, 109, 101, 32, 49, 32, 48, 32, 48, 32, 97, 110, 110, 32, 108, 101, 101],
 [48, 32, 110, 97, 109, 101, 32, 50, 32, 48, 32, 48, 32, 98, 111, 98, 32, 108, 101, 101],
 [48, 32, 108, 105, 118, 101, 32, 49, 32, 55, 32, 48, 32, 53, 48],
 [48, 32, 108, 105, 118, 101, 32, 50, 32, 56, 32, 48, 32, 48],
 [52, 48, 32, 108, 105, 118, 101, 32, 49, 32, 57, 32, 53, 48, 32, 48],
 [52, 48, 32, 114, 101, 100, 105, 114, 101, 99, 116, 32, 53, 32, 49, 32, 55, 32, 49, 32, 48, 32, 53, 48, 32, 56, 48],
 [54, 48, 32, 100, 101, 97, 116, 104, 32, 50, 32, 54, 48],
 [54, 48, 32, 104, 101, 105, 114, 32, 50, 32, 49, 32, 54, 48, 32, 48],
 [55, 48, 32, 114, 101, 102, 117, 115, 101, 32, 49, 32, 57, 32, 50, 32, 55, 48, 32, 55, 53]]
def isE (u : AVal) : KV := fun v _ => AVal.beq v u
theorem flat_case {P : Program} {T : FTab} {f : Nat} {af : AFunc} (hT : TOk P T) (hmix : P.follows .mixedOrders = true) (hok : FnOk P f af) {g : List AVal → AH → Option (AVal × AH)}
    (h : ∀ args H u H2, g args H = some (u, H2) → H2 = H ∧ u.flat = true ∧ flats args = true ∧ Nat.ble args.length af.ntmps = true ∧ bRun T af args ⟨0, .e⟩ (isE u) = true) : ExtOk P f g :=
  extOk_closed hT hmix hok fun args H u H2 hH hg => by
    obtain ⟨rfl, h1, h2, h3, h4⟩ := h args H u H2 hg
    exact ⟨args, ⟨0, .e⟩, .flat args h2, h3, bRun_ok h4 fun v K hv => .inl ⟨h1, AVal.beq_eq hv, rfl⟩⟩
def TB1 : BT := (.n 211 (.fn a211) (.n 203 (.fn a203) .e .e) .e)
theorem TB1_ok : TOk Tryz.prog TB1.get := (bt_n ok211 (bt_n ok203 bt_e bt_e) bt_e)
def g185 : List AVal → AH → Option (AVal × AH)
  | [.str s], H => match bytesEq s [97, 110, 110, 32, 108, 101, 101] || bytesEq s [98, 111, 98, 32, 108, 101, 101] with
    | true => some (.bool true, H)
    | false => none
  | _, _ => none
theorem r185x0 : bRun TB1.get a185 [.str [97, 110, 110, 32, 108, 101, 101]] ⟨0, .e⟩ (isE (.bool true)) = true := by kernel_rfl
theorem r185x1 : bRun TB1.get a185 [.str [98, 111, 98, 32, 108, 101, 101]] ⟨0, .e⟩ (isE (.bool true)) = true := by kernel_rfl
theorem ok185' : ExtOk Tryz.prog 185 g185 := flat_case TB1_ok hmix ok185 fun args H u H2 hg => by
  unfold g185 at hg
  split at hg <;> try (cases hg; done)
  split at hg <;> try (cases hg; done)
  rename_i s _ hs
  simp only [Option.some.injEq, Prod.mk.injEq] at hg
  obtain ⟨rfl, rfl⟩ := hg
  rw [Bool.or_eq_true] at hs
  rcases hs with hs | hs
  · rw [bytesEq_eq hs]; exact ⟨rfl, rfl, rfl, rfl, r185x0⟩
  · rw [bytesEq_eq hs]; exact ⟨rfl, rfl, rfl, rfl, r185x1⟩
def TB2 : BT := (.n 185 (.ext g185) (.n 144 (.fn a144) (.n 127 (.fn a127) (.n 57 (.fn a57) (.n 56 (.fn a56) .e .e) (.n 113 (.fn a113) .e .e)) (.n 143 (.fn a143) (.n 142 (.fn a142) .e .e) .e)) (.n 148 (.fn a148) (.n 146 (.fn a146) (.n 145 (.fn a145) .e .e) (.n 147 (.fn a147) .e .e)) (.n 150 (.fn a150) (.n 149 (.fn a149) .e .e) .e))) (.n 216 (.fn a216) (.n 213 (.fn a213) (.n 204 (.fn a204) (.n 186 (.fn a186) .e .e) (.n 212 (.fn a212) .e .e)) (.n 215 (.fn a215) (.n 214 (.fn a214) .e .e) .e)) (.n 219 (.fn a219) (.n 218 (.fn a218) (.n 217 (.fn a217) .e .e) .e) (.n 221 (.fn a221) (.n 220 (.fn a220) .e .e) .e))))
theorem TB2_ok : TOk Tryz.prog TB2.get := (bt_n ok185' (bt_n ok144 (bt_n ok127 (bt_n ok57 (bt_n ok56 bt_e bt_e) (bt_n ok113 bt_e bt_e)) (bt_n ok143 (bt_n ok142 bt_e bt_e) bt_e)) (bt_n ok148 (bt_n ok146 (bt_n ok145 bt_e bt_e) (bt_n ok147 bt_e bt_e)) (bt_n ok150 (bt_n ok149 bt_e bt_e) bt_e))) (bt_n ok216 (bt_n ok213 (bt_n ok204 (bt_n ok186 bt_e bt_e) (bt_n ok212 bt_e bt_e)) (bt_n ok215 (bt_n ok214 bt_e bt_e) bt_e)) (bt_n ok219 (bt_n ok218 (bt_n ok217 bt_e bt_e) bt_e) (bt_n ok221 (bt_n ok220 bt_e bt_e) bt_e))))
def lookE (cs : List AVal) : List Ent → List (List Nat) → Option (List Nat)
  | e :: es, l :: ls => match beqs cs (encE e) with
    | true => some l
    | false => lookE cs es ls
  | _, _ => none
def lookL (s : List Nat) : List Ent → List (List Nat) → Option Ent
  | e :: es, l :: ls => match bytesEq s l with
    | true => some e
    | false => lookL s es ls
  | _, _ => none
def g114 : List AVal → AH → Option (AVal × AH)
  | [.agg cs], H => match lookE cs smpl slines with
    | some l => some (.tup [.str l, .int .i64 0], H)
    | none => none
  | _, _ => none
def g89 : List AVal → AH → Option (AVal × AH)
  | [.str s], H => match lookL s smpl slines with
    | some e => some (.tup [.agg (encE e), .int .i64 0], H)
    | none => none
  | _, _ => none
theorem lookE_some {cs : List AVal} {l : List Nat} : ∀ (es : List Ent) (ls : List (List Nat)), lookE cs es ls = some l → ∃ (i : Nat) (e : Ent), es[i]? = some e ∧ ls[i]? = some l ∧ cs = encE e
  | [], _, h => by cases h
  | _ :: _, [], h => by cases h
  | e :: es, m :: ls, h => by
    unfold lookE at h
    split at h
    · rename_i hb; injection h with h; subst h; exact ⟨0, e, rfl, rfl, beqs_eq hb⟩
    · obtain ⟨i, e, h1, h2, h3⟩ := lookE_some es ls h; exact ⟨i + 1, e, h1, h2, h3⟩
theorem lookL_some {s : List Nat} {e : Ent} : ∀ (es : List Ent) (ls : List (List Nat)), lookL s es ls = some e → ∃ (i : Nat), es[i]? = some e ∧ ls[i]? = some s
  | [], _, h => by cases h
  | _ :: _, [], h => by cases h
  | x :: es, m :: ls, h => by
    unfold lookL at h
    split at h
    · rename_i hb; injection h with h; subst h; exact ⟨0, rfl, by rw [bytesEq_eq hb]; rfl⟩
    · obtain ⟨i, h1, h2⟩ := lookL_some es ls h; exact ⟨i + 1, h1, h2⟩
theorem r114x0 : bRun TB2.get a114 [.agg (encE (⟨0, 1, 0, 0, 1, 0, 0, 0, 0, [97, 110, 110, 32, 108, 101, 101]⟩ : Ent))] ⟨0, .e⟩ (isE (.tup [.str [48, 32, 110, 97, 109, 101, 32, 49, 32, 48, 32, 48, 32, 97, 110, 110, 32, 108, 101, 101], .int .i64 0])) = true := by kernel_rfl
theorem r114x1 : bRun TB2.get a114 [.agg (encE (⟨0, 1, 0, 0, 2, 0, 0, 0, 0, [98, 111, 98, 32, 108, 101, 101]⟩ : Ent))] ⟨0, .e⟩ (isE (.tup [.str [48, 32, 110, 97, 109, 101, 32, 50, 32, 48, 32, 48, 32, 98, 111, 98, 32, 108, 101, 101], .int .i64 0])) = true := by kernel_rfl
theorem r114x2 : bRun TB2.get a114 [.agg (encE (⟨0, 2, 0, 50, 1, 7, 0, 0, 0, []⟩ : Ent))] ⟨0, .e⟩ (isE (.tup [.str [48, 32, 108, 105, 118, 101, 32, 49, 32, 55, 32, 48, 32, 53, 48], .int .i64 0])) = true := by kernel_rfl
theorem r114x3 : bRun TB2.get a114 [.agg (encE (⟨0, 2, 0, 0, 2, 8, 0, 0, 0, []⟩ : Ent))] ⟨0, .e⟩ (isE (.tup [.str [48, 32, 108, 105, 118, 101, 32, 50, 32, 56, 32, 48, 32, 48], .int .i64 0])) = true := by kernel_rfl
theorem r114x4 : bRun TB2.get a114 [.agg (encE (⟨40, 2, 50, 0, 1, 9, 0, 0, 0, []⟩ : Ent))] ⟨0, .e⟩ (isE (.tup [.str [52, 48, 32, 108, 105, 118, 101, 32, 49, 32, 57, 32, 53, 48, 32, 48], .int .i64 0])) = true := by kernel_rfl
theorem r114x5 : bRun TB2.get a114 [.agg (encE (⟨40, 5, 50, 80, 1, 7, 1, 0, 5, []⟩ : Ent))] ⟨0, .e⟩ (isE (.tup [.str [52, 48, 32, 114, 101, 100, 105, 114, 101, 99, 116, 32, 53, 32, 49, 32, 55, 32, 49, 32, 48, 32, 53, 48, 32, 56, 48], .int .i64 0])) = true := by kernel_rfl
theorem r114x6 : bRun TB2.get a114 [.agg (encE (⟨60, 3, 60, 0, 2, 0, 0, 0, 0, []⟩ : Ent))] ⟨0, .e⟩ (isE (.tup [.str [54, 48, 32, 100, 101, 97, 116, 104, 32, 50, 32, 54, 48], .int .i64 0])) = true := by kernel_rfl
theorem r114x7 : bRun TB2.get a114 [.agg (encE (⟨60, 4, 60, 0, 2, 0, 1, 0, 0, []⟩ : Ent))] ⟨0, .e⟩ (isE (.tup [.str [54, 48, 32, 104, 101, 105, 114, 32, 50, 32, 49, 32, 54, 48, 32, 48], .int .i64 0])) = true := by kernel_rfl
theorem r114x8 : bRun TB2.get a114 [.agg (encE (⟨70, 7, 70, 75, 1, 9, 2, 0, 0, []⟩ : Ent))] ⟨0, .e⟩ (isE (.tup [.str [55, 48, 32, 114, 101, 102, 117, 115, 101, 32, 49, 32, 57, 32, 50, 32, 55, 48, 32, 55, 53], .int .i64 0])) = true := by kernel_rfl
theorem r114xall (i : Nat) (e : Ent) (l : List Nat) (h1 : smpl[i]? = some e) (h2 : slines[i]? = some l) : bRun TB2.get a114 [.agg (encE e)] ⟨0, .e⟩ (isE (.tup [.str l, .int .i64 0])) = true := by
  match i, h1, h2 with
  | 0, h1, h2 => injection h1 with h1; injection h2 with h2; subst h1 h2; exact r114x0
  | 1, h1, h2 => injection h1 with h1; injection h2 with h2; subst h1 h2; exact r114x1
  | 2, h1, h2 => injection h1 with h1; injection h2 with h2; subst h1 h2; exact r114x2
  | 3, h1, h2 => injection h1 with h1; injection h2 with h2; subst h1 h2; exact r114x3
  | 4, h1, h2 => injection h1 with h1; injection h2 with h2; subst h1 h2; exact r114x4
  | 5, h1, h2 => injection h1 with h1; injection h2 with h2; subst h1 h2; exact r114x5
  | 6, h1, h2 => injection h1 with h1; injection h2 with h2; subst h1 h2; exact r114x6
  | 7, h1, h2 => injection h1 with h1; injection h2 with h2; subst h1 h2; exact r114x7
  | 8, h1, h2 => injection h1 with h1; injection h2 with h2; subst h1 h2; exact r114x8
  | i + 9, h1, h2 => cases h1
theorem ok114' : ExtOk Tryz.prog 114 g114 := flat_case TB2_ok hmix ok114 fun args H u H2 hg => by
  unfold g114 at hg
  split at hg <;> try (cases hg; done)
  split at hg <;> try (cases hg; done)
  rename_i cs _ l hs
  simp only [Option.some.injEq, Prod.mk.injEq] at hg
  obtain ⟨rfl, rfl⟩ := hg
  obtain ⟨i, e, h1, h2, rfl⟩ := lookE_some _ _ hs
  exact ⟨rfl, rfl, rfl, rfl, r114xall i e l h1 h2⟩
end Rst
