/- A verified abstract machine for this program, contracts of its functions, and rows: Alive3. -/
import Derived.Test.YtdpadejfbnbjiaaGreatDoorG
import Derived.Test.YtdpadejfbnbjiaaGreatDoorAlive1
import Derived.KernelRfl
/- The closed calls behind 'alive', part 3: printed by a program. -/
set_option maxRecDepth 1000000
set_option maxHeartbeats 4000000
set_option linter.unusedVariables false
namespace Rst
open Go Go.Proofs
def TB4 : BT := (.n 115 (.fn a115) (.n 57 (.fn a57) (.n 56 (.fn a56) .e .e) (.n 64 (.fn a64) .e .e)) (.n 151 (.fn a151) (.n 149 (.fn a149) .e .e) (.n 185 (.ext g185) .e .e)))
theorem TB4_ok : TOk Tryz.prog TB4.get := (bt_n ok115 (bt_n ok57 (bt_n ok56 bt_e bt_e) (bt_n ok64 bt_e bt_e)) (bt_n ok151 (bt_n ok149 bt_e bt_e) (bt_n ok185' bt_e bt_e)))
/-- The slice at a block's head holds just these cells, and no error. -/
def isNew (n : Nat) (vs : List AVal) : KV := fun v K => match v with
  | .tup [.slice (some (c, 0)) m cap 10, .int .i64 0] => Nat.beq m n && Nat.ble n cap && (match K.get c with
    | some (.cells true ws) => beqs ws vs
    | _ => false)
  | _ => false
def readSl (H : AH) : AVal → Option (Nat × List AVal)
  | .slice none 0 0 0 => some (0, [])
  | .slice (some a) n c 10 => match Nat.ble 1 n, Nat.ble n c, H.loadN a (n * 10) with
    | true, true, some l => some (n, l)
    | _, _, _ => none
  | _ => none
def g90 : List AVal → AH → Option (AVal × AH)
  | [s, .agg x], H => match readSl H s with
    | some (n, l) => match beqs l (entE.all (smpl.take n)), smpl[n]? with
      | true, some e => match beqs x (encE e) with
        | true => some (.tup [.slice (some (H.next, 0)) (n + 1) (n + 1) 10, .int .i64 0], H.alloc (.cells true (entE.all (smpl.take (n + 1)))))
        | false => none
      | _, _ => none
    | none => none
  | _, _ => none
theorem r90x0 : bRun TB4.get a90 [.slice none 0 0 0, .agg (encE (⟨0, 1, 0, 0, 1, 0, 0, 0, 0, [97, 110, 110, 32, 108, 101, 101]⟩ : Ent))] ⟨0, .e⟩ (isNew 1 (entE.all (smpl.take 1))) = true := by kernel_rfl
theorem r90x1 : bRun TB4.get a90 [.slice (some (0, 0)) 1 1 10, .agg (encE (⟨0, 1, 0, 0, 2, 0, 0, 0, 0, [98, 111, 98, 32, 108, 101, 101]⟩ : Ent))] ⟨1, Tr.e.set 0 (.cells false (entE.all (smpl.take 1)))⟩ (isNew 2 (entE.all (smpl.take 2))) = true := by kernel_rfl
theorem r90x2 : bRun TB4.get a90 [.slice (some (0, 0)) 2 2 10, .agg (encE (⟨0, 2, 0, 50, 1, 7, 0, 0, 0, []⟩ : Ent))] ⟨1, Tr.e.set 0 (.cells false (entE.all (smpl.take 2)))⟩ (isNew 3 (entE.all (smpl.take 3))) = true := by kernel_rfl
theorem r90x3 : bRun TB4.get a90 [.slice (some (0, 0)) 3 3 10, .agg (encE (⟨0, 2, 0, 0, 2, 8, 0, 0, 0, []⟩ : Ent))] ⟨1, Tr.e.set 0 (.cells false (entE.all (smpl.take 3)))⟩ (isNew 4 (entE.all (smpl.take 4))) = true := by kernel_rfl
theorem r90x4 : bRun TB4.get a90 [.slice (some (0, 0)) 4 4 10, .agg (encE (⟨40, 2, 50, 0, 1, 9, 0, 0, 0, []⟩ : Ent))] ⟨1, Tr.e.set 0 (.cells false (entE.all (smpl.take 4)))⟩ (isNew 5 (entE.all (smpl.take 5))) = true := by kernel_rfl
theorem r90x5 : bRun TB4.get a90 [.slice (some (0, 0)) 5 5 10, .agg (encE (⟨40, 5, 50, 80, 1, 7, 1, 0, 5, []⟩ : Ent))] ⟨1, Tr.e.set 0 (.cells false (entE.all (smpl.take 5)))⟩ (isNew 6 (entE.all (smpl.take 6))) = true := by kernel_rfl
theorem r90x6 : bRun TB4.get a90 [.slice (some (0, 0)) 6 6 10, .agg (encE (⟨60, 3, 60, 0, 2, 0, 0, 0, 0, []⟩ : Ent))] ⟨1, Tr.e.set 0 (.cells false (entE.all (smpl.take 6)))⟩ (isNew 7 (entE.all (smpl.take 7))) = true := by kernel_rfl
theorem r90x7 : bRun TB4.get a90 [.slice (some (0, 0)) 7 7 10, .agg (encE (⟨60, 4, 60, 0, 2, 0, 1, 0, 0, []⟩ : Ent))] ⟨1, Tr.e.set 0 (.cells false (entE.all (smpl.take 7)))⟩ (isNew 8 (entE.all (smpl.take 8))) = true := by kernel_rfl
theorem r90x8 : bRun TB4.get a90 [.slice (some (0, 0)) 8 8 10, .agg (encE (⟨70, 7, 70, 75, 1, 9, 2, 0, 0, []⟩ : Ent))] ⟨1, Tr.e.set 0 (.cells false (entE.all (smpl.take 8)))⟩ (isNew 9 (entE.all (smpl.take 9))) = true := by kernel_rfl
theorem isNew_adopt {H : AH} {n : Nat} {vs : List AVal} {v : AVal} {K : AH} (hn : n ≠ 0) (hf : flats vs = true) (h : isNew n vs v K = true) : Adopt H (.tup [.slice (some (H.next, 0)) n n 10, .int .i64 0]) (H.alloc (.cells true vs)) v K := by
  unfold isNew at h
  split at h <;> try (cases h; done)
  rename_i c m cap
  simp only [Bool.and_eq_true] at h
  obtain ⟨⟨h1, h2⟩, h3⟩ := h
  have h1 := Nat.eq_of_beq_eq_true h1
  have h2 := Nat.le_of_ble_eq_true h2
  subst h1
  split at h3 <;> try (cases h3; done)
  rename_i ws hw
  have := beqs_eq h3
  subst this
  exact .inr ⟨c, ws, ws, hw, List.prefix_refl _, hf, rfl, .tup _ _ (.cons _ _ _ _ (.slice _ _ _ _ _ _ _ rfl rfl (Nat.le_refl _) h2 (fun e => absurd e hn)) (.cons _ _ _ _ (.int _ _) .nil))⟩
theorem r90xall (i : Nat) (e : Ent) (h1 : smpl[i + 1]? = some e) : bRun TB4.get a90 [.slice (some (0, 0)) (i + 1) (i + 1) 10, .agg (encE e)] ⟨1, Tr.e.set 0 (.cells false (entE.all (smpl.take (i + 1))))⟩ (isNew (i + 2) (entE.all (smpl.take (i + 2)))) = true := by
  match i, h1 with
  | 0, h1 => injection h1 with h1; subst h1; exact r90x1
  | 1, h1 => injection h1 with h1; subst h1; exact r90x2
  | 2, h1 => injection h1 with h1; subst h1; exact r90x3
  | 3, h1 => injection h1 with h1; subst h1; exact r90x4
  | 4, h1 => injection h1 with h1; subst h1; exact r90x5
  | 5, h1 => injection h1 with h1; subst h1; exact r90x6
  | 6, h1 => injection h1 with h1; subst h1; exact r90x7
  | 7, h1 => injection h1 with h1; subst h1; exact r90x8
  | i + 8, h1 => cases h1
theorem ok90' : ExtOk Tryz.prog 90 g90 := extOk_closed TB4_ok hmix ok90 fun args H u H2 hH hg => by
  unfold g90 at hg
  split at hg <;> try (cases hg; done)
  split at hg <;> try (cases hg; done)
  split at hg <;> try (cases hg; done)
  split at hg <;> try (cases hg; done)
  rename_i s x _ n l hs _ _ e hl he _ hx
  simp only [Option.some.injEq, Prod.mk.injEq] at hg
  obtain ⟨rfl, rfl⟩ := hg
  have hl := beqs_eq hl
  have hx := beqs_eq hx
  subst hl hx
  unfold readSl at hs
  split at hs
  · simp only [Option.some.injEq, Prod.mk.injEq] at hs
    obtain ⟨rfl, _⟩ := hs
    injection he with he
    subst he
    exact ⟨_, ⟨0, .e⟩, .flat _ rfl, rfl, bRun_ok r90x0 fun v K hv => isNew_adopt (n := 1) (by omega) (entE.all_fl _) hv⟩
  · rename_i a n' c
    split at hs <;> try (cases hs; done)
    rename_i l' h1 h2 h3
    simp only [Option.some.injEq, Prod.mk.injEq] at hs
    obtain ⟨rfl, rfl⟩ := hs
    have h1 := Nat.le_of_ble_eq_true h1
    have h2 := Nat.le_of_ble_eq_true h2
    obtain ⟨i, rfl⟩ : ∃ i, n' = i + 1 := ⟨n' - 1, by omega⟩
    have hi : i + 1 < smpl.length := (List.getElem?_eq_some_iff.1 he).1
    have hlen : (smpl.take (i + 1)).length = i + 1 := by rw [List.length_take]; omega
    have hi9 : i + 1 < 9 := hi
    unfold AH.loadN at h3
    split at h3 <;> try (cases h3; done)
    rename_i own vs hg
    obtain ⟨ab, ai⟩ := a
    dsimp only at h3
    split at h3 <;> try (cases h3; done)
    injection h3 with h3
    have hs : Sl entE H (.slice (some (ab, ai)) (i + 1) c 10) (smpl.take (i + 1)) := by
      refine ⟨some (ab, ai), c, 10, by rw [hlen], by rw [hlen]; exact h2, by rw [hlen, entE_bytes]; omega, fun e => (by cases e), fun b' i' e => ?_⟩
      injection e with e
      injection e with e1 e2
      subst e1 e2
      exact ⟨rfl, own, vs, hg, by rw [hlen, entE_sz]; exact h3⟩
    have hv := View.slice entE _ _ [.agg (encE e)] hs (by intro e0; rw [e0] at hlen; cases hlen) rfl
    rw [hlen] at hv
    exact ⟨_, _, hv, rfl, bRun_ok (r90xall i e he) fun v K hk => isNew_adopt (n := i + 2) (by omega) (entE.all_fl _) hk⟩
  · cases hs
end Rst
