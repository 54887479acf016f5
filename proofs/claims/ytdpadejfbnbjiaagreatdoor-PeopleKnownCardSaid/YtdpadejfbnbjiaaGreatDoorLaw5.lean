/- A verified abstract machine for this program, contracts of its functions, and rows: Law5. -/
import Derived.Test.YtdpadejfbnbjiaaGreatDoorKnown
import Derived.Test.YtdpadejfbnbjiaaGreatDoorAlive4
/- PeopleKnown returns true. -/
set_option linter.unusedVariables false
set_option linter.unusedSimpArgs false
set_option maxRecDepth 100000
namespace Rst
open Go Go.Proofs
open Go (IntKind BinOp UnOp)
attribute [local congr] RC_congr R1_congr RG_congr RF_congr RT_congr RA_congr
attribute [local simp] Int.natCast_inj run_nil run_ops_nil run_skip run_label run_exit run_goto run_ret run_region run_alts1 run_seq run_block run_blk run_lp run_scp run_cond rc_true rc_false jmp_nil jmp_exit_ops jmp_exit_code jmp_exit_lp jmp_exit_scp jmp_exit_blk jmp_goto_ops jmp_goto_code jmp_goto_lp jmp_goto_blk jmp_ret_ops jmp_ret_code jmp_ret_lp jmp_ret_scp jmp_ret_blk run_mv run_pick run_alloc run_box run_build run_buildS run_load run_store run_nilc run_bin run_eqv run_un run_convI run_convBS run_convSS run_convSB run_mkI run_mkF run_mkM run_mkS run_sl run_slStr run_slArr run_fa run_ia run_iaArr run_idxStr run_idxArr run_fld run_lk run_mu run_del run_ta run_ext run_len run_lenArr run_app run_min run_max run_clr run_cpy run_guard run_call run_again ra_some r1_some r1_pair rg_bool rg_nul rf_func rt_ext put_some put_none retK_ret retK_nrm evOp AO.ev Tr.at_set Tr.get_set abin ibin sbin aun entry lenV resVal resAll resOf AH.next_alloc AH.next_set AH.load1 AH.loadN AVal.cells AVal.isVal
theorem knownL_known (es : List Ent) (d o : Int) : knownL (knownL es d) o = knownL es (if o < d then o else d) := by
  induction es with
  | nil => rfl
  | cons e es ih =>
    unfold knownL at ih ⊢
    by_cases h1 : e.day ≤ d <;> by_cases h2 : e.day ≤ o
    · have h3 : e.day ≤ if o < d then o else d := by split <;> assumption
      simp [List.takeWhile_cons, h1, h2, h3, ih]
    · have h3 : ¬ e.day ≤ if o < d then o else d := by split <;> omega
      simp [List.takeWhile_cons, h1, h2, h3]
    · have h3 : ¬ e.day ≤ if o < d then o else d := by split <;> omega
      simp [List.takeWhile_cons, h1, h3]
    · have h3 : ¬ e.day ≤ if o < d then o else d := by split <;> omega
      simp [List.takeWhile_cons, h1, h3]
theorem clone_nil {α : Type} {E : Enc α} {H : AH} {s : AVal} {xs ys : List α} (hs : Sl E H s xs) (h : xs = [] → ys = []) : ∀ m c sz, s = .slice none m c sz → ys = [] := by
  intro m c sz e
  obtain ⟨a, c', sz', e', _, _, ha, _⟩ := hs.shape
  rw [e] at e'
  injection e' with e1
  exact h (ha e1.symm)
noncomputable def g5 : Spec
  | [s, .int .i64 d, .int .i64 o], H => (slOf entE H s).bind fun es => some (.bool true, H)
  | _, _ => none
theorem g5_eq {s : AVal} {d : Int} {o : Int} {H : AH} {es : _} (hs : Sl entE H s es) : g5 [s, .int .i64 d, .int .i64 o] H = some (.bool true, H) := by
  simp only [g5, slOf_eq.2 hs, Option.bind_some]
noncomputable def T5 : BT := (.n 21 (.ext g21) (.n 20 (.ext g20) (.n 16 (.ext g16) .e .e) .e) (.n 22 (.ext g22) .e .e))
theorem T5_ok : TOk Tryz.prog T5.get := (bt_n ok21' (bt_n ok20' (bt_n ok16' bt_e bt_e) bt_e) (bt_n ok22' bt_e bt_e))
theorem T5x16 : T5.get 16 = some (.ext g16) := rfl
theorem T5x20 : T5.get 20 = some (.ext g20) := rfl
theorem T5x21 : T5.get 21 = some (.ext g21) := rfl
theorem T5x22 : T5.get 22 = some (.ext g22) := rfl
theorem run5 (H : AH) (hH : HOk H) (s : AVal) (es : List Ent) (hs : Sl entE H s es) (d : Int) (o : Int) : Run T5.get [.code a5.body] (entry .e 0 [s, .int .i64 d, .int .i64 o]) H (retK a5.results (fun v K => v = .bool true) (fun _ _ => False)) := by
  have hl : es.length * entE.bytes ≤ 140737488355328 := by obtain ⟨_, _, _, _, _, h, _⟩ := hs.shape; exact h
  have hle : ∀ (l : List Ent), l.length ≤ es.length → l.length * entE.bytes ≤ 140737488355328 := fun l h => Nat.le_trans (Nat.mul_le_mul_right _ h) hl
  have hk1 := knownL_len es d
  have hk2 := knownL_len (knownL es d) o
  have hk3 := knownL_len es (if o < d then o else d)
  have n1 := clone_nil (ys := knownL es d) hs (fun e => by rw [e]; rfl)
  have m1 := sl_clone (H := H) n1 (hle _ hk1)
  have e1 := g20_eq (d := d) hs
  have h1 : HOk (cloneSl entE H s (knownL es d)).2 := hH.clone
  have s1 : Sl entE (cloneSl entE H s (knownL es d)).2 s es := hs.keep hH fun b hb => clone_keep hb
  generalize cloneSl entE H s (knownL es d) = p1 at *
  obtain ⟨v1, H1⟩ := p1
  dsimp only at m1 h1 s1
  have e2 := g22_eq (d := d) s1
  have m2 := sl_new (E := entE) (H := H1) (hle _ hk1)
  have h2 : HOk (newSl entE H1 (knownL es d)).2 := h1.new
  have s2 : Sl entE (newSl entE H1 (knownL es d)).2 s es := s1.keep h1 fun b hb => new_keep hb
  have m1' : Sl entE (newSl entE H1 (knownL es d)).2 v1 (knownL es d) := m1.keep h1 fun b hb => new_keep hb
  generalize newSl entE H1 (knownL es d) = p2 at *
  obtain ⟨v2, H2⟩ := p2
  dsimp only at m2 h2 s2 m1'
  have e3 := g21_eq m1' m2
  have e4 := g20_eq (d := o) m1'
  have n4 := clone_nil (ys := knownL (knownL es d) o) m1' (fun e => by rw [e]; rfl)
  have m4 := sl_clone (H := H2) n4 (hle _ (by omega))
  have h4 : HOk (cloneSl entE H2 v1 (knownL (knownL es d) o)).2 := h2.clone
  have s4 : Sl entE (cloneSl entE H2 v1 (knownL (knownL es d) o)).2 s es := s2.keep h2 fun b hb => clone_keep hb
  generalize cloneSl entE H2 v1 (knownL (knownL es d) o) = p4 at *
  obtain ⟨v4, H4⟩ := p4
  dsimp only at m4 h4 s4
  have e5 := g20_eq (d := if o < d then o else d) s4
  have n5 := clone_nil (ys := knownL es (if o < d then o else d)) s4 (fun e => by rw [e]; rfl)
  have m5 := sl_clone (H := H4) n5 (hle _ hk3)
  have m4' : Sl entE (cloneSl entE H4 s (knownL es (if o < d then o else d))).2 v4 (knownL (knownL es d) o) := m4.keep h4 fun b hb => clone_keep hb
  generalize cloneSl entE H4 s (knownL es (if o < d then o else d)) = p5 at *
  obtain ⟨v5, H5⟩ := p5
  dsimp only at m5 m4'
  have e6 := g21_eq m4' m5
  have e7 : g16 [] H2 = some (.bool true, H2) := rfl
  rw [knownL_known] at e6
  simp [a5, run_nil, T5x16, T5x20, T5x21, T5x22, e1, e2, e3, e4, e5, e6, e7]
theorem ok5' : ExtOk Tryz.prog 5 g5 := extOk_of T5_ok hmix ok5 fun args H u H2 hH hg => by
  unfold g5 at hg
  split at hg <;> try (cases hg; done)
  rename_i s d o
  obtain ⟨es, hs, hg⟩ := Option.bind_eq_some_iff.1 hg
  rw [slOf_eq] at hs
  have hrun := run5 (H.ro noS) hH.ro s es hs.ro d o
  try dsimp only at hg
  injection hg with hg
  injection hg with h1 h2
  subst h1 h2
  exact ⟨noS, rfl, _, hrun, fun v K h => by subst h; exact gives_same hH (VSub.of_flat _ (by first | rfl | (simp [AVal.flat, flats]; done) | (split <;> rfl)))⟩
end Rst
