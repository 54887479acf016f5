/- A verified abstract machine for this program, contracts of its functions, and rows: OpsB, OpsC, OpsD. -/
import Derived.Test.YtdpadejfbnbjiaaGreatDoorB
import Derived.Laws.StructEq
/- What each translated operation does in the model: equality, aggregates, and what reads or writes memory. -/
set_option linter.unusedVariables false
set_option linter.unusedSimpArgs false
namespace Rst
open Go

/-- The kinds of what '==' is asked of, one cell. -/
inductive CellKind : LK → TypeDesc → Prop where
  | bool : CellKind .bool .bool
  | int (k : IntKind) : CellKind .int (.int k)
  | str : CellKind .str .string
  | ptr (e : TypeId) : CellKind .ptr (.pointer e)
  | slice (e : TypeId) : CellKind .slice (.slice e)
  | map (k e : TypeId) : CellKind .map (.map k e)
  | func (a b : Array TypeId) (v : Bool) : CellKind .func (.func a b v)
  | iface (ms : Array (String × TypeId)) : CellKind .iface (.interface ms)

set_option maxHeartbeats 2000000 in
theorem eq1_spec {P : Program} {ι : Inj} {w : World} {t : TypeId} {d : TypeDesc} {k : LK} (hd : P.underlying t = some d) (hk : CellKind k d) {x y : AVal} {X Y : Value} (h1 : VRel ι x X) (h2 : VRel ι y Y) {b : Bool} (he : eq1 k x y = some b) (m : Nat) :
    (Op.equalIn (m + 1) t X Y).run P w = .ok b w := by
  cases hk with
  | bool =>
    cases h1 <;> cases h2 <;> try (simp [eq1] at he; done)
    simp only [eq1, Option.some.injEq] at he
    subst he
    simp [Op.equalIn, run_underlying hd]
  | int k =>
    cases h1 <;> cases h2 <;> try (simp [eq1] at he; done)
    simp only [eq1] at he
    split at he
    · rename_i hk
      subst hk
      simp only [Option.some.injEq] at he
      subst he
      rename_i k' p q
      rw [run_equalIn_int w m t k' k p q hd]
      rfl
    · cases he
  | str =>
    cases h1 <;> cases h2 <;> try (simp [eq1] at he; done)
    rename_i l s hl l' s' hl'
    subst hl hl'
    simp only [eq1, bytesEq_spec, Option.some.injEq] at he
    subst he
    rw [run_equalIn_string w m t s s' hd, ByteArray.toList_eq, ByteArray.toList_eq]
  | ptr e =>
    cases h1 <;> cases h2 <;> try (simp [eq1] at he; done)
    all_goals
      simp only [eq1, Option.some.injEq] at he
      subst he
      simp [Op.equalIn, run_underlying hd]
  | slice e =>
    cases h1 <;> cases h2 <;> try (simp [eq1] at he; done)
    all_goals
      simp only [eq1, Option.some.injEq] at he
      subst he
      simp [Op.equalIn, run_underlying hd]
  | map q e =>
    cases h1 <;> cases h2 <;> try (simp [eq1] at he; done)
    all_goals
      simp only [eq1, Option.some.injEq] at he
      subst he
      simp [Op.equalIn, run_underlying hd]
  | func a1 a2 v =>
    cases h1 <;> cases h2 <;> try (simp [eq1] at he; done)
    all_goals
      simp only [eq1, Option.some.injEq] at he
      subst he
      simp [Op.equalIn, run_underlying hd]
  | iface ms =>
    cases h1 <;> cases h2 <;> try (simp [eq1] at he; done)
    all_goals
      simp only [eq1, Option.some.injEq] at he
      subst he
      simp [Op.equalIn, run_underlying hd]

theorem eqs_append : ∀ (ks ls : List LK) (x y : List AVal) (b : Bool), eqs (ks ++ ls) x y = some b →
    (eqs ks (x.take ks.length) (y.take ks.length) = some false ∧ b = false) ∨ (eqs ks (x.take ks.length) (y.take ks.length) = some true ∧ eqs ls (x.drop ks.length) (y.drop ks.length) = some b) := by
  intro ks
  induction ks with
  | nil => intro ls x y b h; exact .inr ⟨by simp [eqs], by simpa using h⟩
  | cons k ks ih =>
    intro ls x y b h
    cases x with
    | nil => simp [eqs] at h
    | cons a x =>
      cases y with
      | nil => simp [eqs] at h
      | cons c y =>
        simp only [List.cons_append, eqs] at h
        simp only [List.length_cons, List.take_succ_cons, List.drop_succ_cons, eqs]
        split at h
        · exact ih ls x y b h
        · injection h with h
          exact .inl ⟨rfl, h.symm⟩
        · cases h

theorem eqs_len : ∀ (ks : List LK) (x y : List AVal) (b : Bool), eqs ks x y = some b → ∀ k ks', ks = k :: ks' → ∃ a x' c y', x = a :: x' ∧ y = c :: y' := by
  intro ks x y b h k ks' e
  subst e
  cases x with
  | nil => simp [eqs] at h
  | cons a x =>
    cases y with
    | nil => simp [eqs] at h
    | cons c y => exact ⟨a, x, c, y, rfl, rfl⟩

theorem run_part_cells {P : Program} {w : World} {t : TypeId} {d : TypeDesc} {i : TypeInfo} (hd : P.underlying t = some d) (hi : P.info? t = some i) (cs : List Value) (off : Nat) :
    (isAggD d = true → (part t cs.toArray off).run P w = .ok (.agg ((cs.drop off).take i.size).toArray) w) ∧ (isAggD d = false → ∀ v, cs[off]? = some v → (part t cs.toArray off).run P w = .ok v w) := by
  unfold part
  simp only [Sem.run_bind, rAgg w hd, Result.andThen_ok]
  refine ⟨fun ha => ?_, fun ha v hv => ?_⟩
  · simp only [ha, if_true, Sem.run_bind, rSize w hi, Result.andThen_ok, Sem.run_pure]
    congr 2
    rw [List.extract_toArray, List.extract_eq_take_drop]
    congr 2
    omega
  · simp [ha, hv]

theorem eqs_spec {P : Program} {ι : Inj} {w : World} : ∀ (d : Nat) (t : TypeId) (ks : List LK), trLKs P d t = some ks → ∀ (m : Nat),
    (∀ dd fs, P.underlying t = some dd → dd = .struct fs → ∀ (xs ys : List AVal) (xs' ys' : List Value) (b : Bool), VsRel ι xs xs' → VsRel ι ys ys' → eqs ks xs ys = some b → (Op.equalIn (m + d) t (.agg xs'.toArray) (.agg ys'.toArray)).run P w = .ok b w) ∧
    (∀ dd, P.underlying t = some dd → isAggD dd = false → ∃ k, ks = [k] ∧ CellKind k dd) := by
  intro d
  induction d with
  | zero => intro t ks h; simp [trLKs] at h
  | succ d ih =>
    intro t ks h m
    unfold trLKs at h
    split at h
    · rename_i hu; injection h with h; subst h
      exact ⟨(fun dd fs h1 h2 => by rw [hu] at h1; injection h1 with h1; subst h1; cases h2), (fun dd h1 _ => by rw [hu] at h1; injection h1 with h1; subst h1; exact ⟨_, rfl, .bool⟩)⟩
    · rename_i k hu; injection h with h; subst h
      exact ⟨(fun dd fs h1 h2 => by rw [hu] at h1; injection h1 with h1; subst h1; cases h2), (fun dd h1 _ => by rw [hu] at h1; injection h1 with h1; subst h1; exact ⟨_, rfl, .int _⟩)⟩
    · rename_i hu; injection h with h; subst h
      exact ⟨(fun dd fs h1 h2 => by rw [hu] at h1; injection h1 with h1; subst h1; cases h2), (fun dd h1 _ => by rw [hu] at h1; injection h1 with h1; subst h1; exact ⟨_, rfl, .str⟩)⟩
    · rename_i fs hu
      refine ⟨?_, (fun dd h1 h2 => by rw [hu] at h1; injection h1 with h1; subst h1; cases h2)⟩
      intro dd fs' h1 h2 xs ys xs' ys' b hx hy he
      split at h
      · cases h
      · rename_i hp
        have hfo : P.fieldsOf t = fs := by simp [Program.fieldsOf, hu]
        rw [show m + (d + 1) = (m + d) + 1 from by omega]
        rw [run_equalIn_struct w (m + d) t _ _ (by rw [hfo]; exact hu) (by simpa using hp), hfo]
        clear hu h1 h2 hfo
        have key : ∀ (l : List Field) (off : Nat) (ks : List LK), trLKgo P (trLKs P d) off l = some ks → ∀ b, eqs ks (xs.drop off) (ys.drop off) = some b → (Op.eqFields (m + d) xs'.toArray ys'.toArray l).run P w = .ok b w := by
          intro l
          induction l with
          | nil =>
            intro off ks h b he
            simp only [trLKgo, Option.some.injEq] at h
            subst h
            cases hxs : xs.drop off <;> cases hys : ys.drop off <;> rw [hxs, hys] at he <;> simp [eqs] at he
            subst he
            rfl
          | cons f l ihl =>
            intro off ks h b he
            simp only [trLKgo] at h
            split at h
            · rename_i hf
              obtain ⟨hf1, hf2⟩ := hf
              split at h
              · rename_i k1 i hk1 hi
                split at h
                · rename_i hsz
                  split at h
                  · rename_i r hr
                    injection h with h
                    subst h
                    have hE := eqs_append _ _ _ _ _ he
                    obtain ⟨dd1, hdd1⟩ : ∃ dd1, P.underlying f.type = some dd1 := by
                      cases hq : P.underlying f.type with
                      | some q => exact ⟨q, rfl⟩
                      | none =>
                        cases d with
                        | zero => simp [trLKs] at hk1
                        | succ d => simp [trLKs, hq] at hk1
                    have hih := ih f.type k1 hk1 m
                    have hX := run_part_cells (P := P) (w := w) hdd1 hi xs' f.offset
                    have hY := run_part_cells (P := P) (w := w) hdd1 hi ys' f.offset
                    have hsub : ∃ A B, (part f.type xs'.toArray f.offset).run P w = .ok A w ∧ (part f.type ys'.toArray f.offset).run P w = .ok B w ∧ ∀ b', eqs k1 ((xs.drop off).take k1.length) ((ys.drop off).take k1.length) = some b' → (Op.equalIn (m + d) f.type A B).run P w = .ok b' w := by
                      cases ha : isAggD dd1 with
                      | true =>
                        refine ⟨_, _, hX.1 ha, hY.1 ha, fun b' hb' => ?_⟩
                        have : ∃ fs1, dd1 = .struct fs1 := by
                          cases dd1 <;> simp [isAggD] at ha
                          · exfalso
                            cases d with
                            | zero => simp [trLKs] at hk1
                            | succ d => simp [trLKs, hdd1] at hk1
                          · exact ⟨_, rfl⟩
                        obtain ⟨fs1, hfs1⟩ := this
                        refine hih.1 dd1 fs1 hdd1 hfs1 _ _ _ _ b' ?_ ?_ hb'
                        · rw [hf1, hsz]; exact (hx.drop off).take _
                        · rw [hf1, hsz]; exact (hy.drop off).take _
                      | false =>
                        obtain ⟨k, hk, hck⟩ := hih.2 dd1 hdd1 ha
                        subst hk
                        have hE1 : ∃ b', eqs [k] ((xs.drop off).take 1) ((ys.drop off).take 1) = some b' := by
                          rcases hE with ⟨h1, _⟩ | ⟨h1, _⟩ <;> exact ⟨_, h1⟩
                        obtain ⟨b1, hb1⟩ := hE1
                        obtain ⟨a, x', c, y', hxa, hyc⟩ := eqs_len _ _ _ _ hb1 k [] rfl
                        have hxa' : xs[off]? = some a := by
                          have : ((xs.drop off).take 1)[0]? = some a := by rw [hxa]; rfl
                          simpa using this
                        have hyc' : ys[off]? = some c := by
                          have : ((ys.drop off).take 1)[0]? = some c := by rw [hyc]; rfl
                          simpa using this
                        obtain ⟨A, hA1, hA2⟩ := hx.get _ _ hxa'
                        obtain ⟨B, hB1, hB2⟩ := hy.get _ _ hyc'
                        refine ⟨A, B, hX.2 ha A (by rw [hf1]; exact hA1), hY.2 ha B (by rw [hf1]; exact hB1), fun b' hb' => ?_⟩
                        simp only [List.length_singleton] at hb'
                        rw [hxa, hyc] at hb'
                        have hq : eq1 k a c = some b' := by
                          simp only [eqs] at hb'
                          split at hb'
                          · rename_i h5
                            have hxl : x' = [] := by
                              have := congrArg List.length hxa
                              simp at this
                              have : x'.length = 0 := by omega
                              exact List.eq_nil_of_length_eq_zero this
                            have hyl : y' = [] := by
                              have := congrArg List.length hyc
                              simp at this
                              have : y'.length = 0 := by omega
                              exact List.eq_nil_of_length_eq_zero this
                            subst hxl hyl
                            simp only [eqs, Option.some.injEq] at hb'
                            rw [h5, hb']
                          · rename_i h5; rw [h5, hb']
                          · cases hb'
                        cases d with
                        | zero => simp [trLKs] at hk1
                        | succ d =>
                          rw [show m + (d + 1) = (m + d) + 1 from by omega]
                          exact eq1_spec hdd1 hck hA2 hB2 hq _
                    obtain ⟨A, B, hA, hB, hAB⟩ := hsub
                    simp only [Op.eqFields]
                    rw [if_pos hf2]
                    simp only [Sem.run_bind, hA, hB, Result.andThen_ok]
                    rcases hE with ⟨h1, rfl⟩ | ⟨h1, h2⟩
                    · rw [hAB _ h1]
                      rfl
                    · rw [hAB _ h1]
                      simp only [Result.andThen_ok, Bool.not_true, Bool.false_eq_true, if_false]
                      refine ihl (off + k1.length) r hr b ?_
                      rw [List.drop_drop, List.drop_drop] at h2
                      simpa [Nat.add_comm] using h2
                  · cases h
                · cases h
              · cases h
            · cases h
        exact key fs.toList 0 ks h b (by simpa using he)
    · cases h
end Rst
/- What each translated operation does in the model: '==', literals of structs, loads, stores, new blocks. -/
set_option linter.unusedVariables false
set_option linter.unusedSimpArgs false
namespace Rst
open Go

section ops
variable {P : Program} {o : Oper}

theorem trKT_spec {t : TypeId} {q : KT} (h : trKT P t = some q) : ∃ d, P.underlying t = some d ∧ ((∃ k, q = .one k ∧ CellKind k d) ∨ ∃ fs ks, d = .struct fs ∧ q = .agg ks ∧ trLKs P 6 t = some ks ∧ P.eqGuardType P.depth t = false) := by
  unfold trKT at h
  split at h
  case h_9 =>
    rename_i fs hu
    refine ⟨_, hu, .inr ?_⟩
    split at h
    · rename_i ks hks
      split at h
      · cases h
      · rename_i hg
        injection h with h
        exact ⟨fs, ks, rfl, h.symm, hks, by simpa using hg⟩
    · cases h
  case h_10 => cases h
  all_goals
    rename_i hu
    injection h with h
    subst h
    exact ⟨_, hu, .inl ⟨_, rfl, by constructor⟩⟩

theorem aeq_spec {ι : Inj} {w : World} {t : TypeId} {q : KT} (hq : trKT P t = some q) {x y : AVal} {X Y : Value} (h1 : VRel ι x X) (h2 : VRel ι y Y) {b : Bool} (he : aeq q x y = some b) :
    (Op.equal t X Y).run P w = .ok b w := by
  obtain ⟨d, hd, hcase⟩ := trKT_spec hq
  rcases hcase with ⟨k, rfl, hk⟩ | ⟨fs, ks, rfl, rfl, hks, hg⟩
  · simp only [aeq] at he
    exact eq1_spec hd hk h1 h2 he 9999
  · cases h1 <;> try (simp [aeq] at he; done)
    cases h2 <;> try (simp [aeq] at he; done)
    rename_i xs xs' hx ys ys' hy
    simp only [aeq] at he
    exact (eqs_spec 6 t ks hks 9994).1 _ fs hd rfl xs ys xs' ys' b hx hy he

theorem aeq_vals {q : KT} {x y : AVal} {b : Bool} (he : aeq q x y = some b) {ι : Inj} {X Y : Value} (h1 : VRel ι x X) (h2 : VRel ι y Y) :
    (∃ cs ds ks, X = .agg cs ∧ Y = .agg ds ∧ q = .agg ks) ∨ ((∀ cs, X ≠ .agg cs) ∧ (∀ cs, Y ≠ .agg cs)) := by
  cases q with
  | one k =>
    refine .inr ⟨?_, ?_⟩
    · intro cs e; subst e
      cases h1 <;> cases k <;> simp [aeq, eq1] at he
    · intro cs e; subst e
      cases h2 <;> cases k <;> cases h1 <;> simp [aeq, eq1] at he
  | agg ks =>
    cases h1 <;> try (simp [aeq] at he; done)
    cases h2 <;> try (simp [aeq] at he; done)
    exact .inl ⟨_, _, ks, rfl, rfl, rfl⟩

theorem binOp_eql {t : TypeId} {X Y : Value} (h : ∀ k a, X ≠ .int k a) (hs : ∀ s, X ≠ .string s) (hf : ∀ k b, X ≠ .float k b) (hc : ∀ k a b, X ≠ .complex k a b) :
    binOp .eql t X Y = (do pure (.bool (← Op.equal t X Y))) ∧ binOp .neq t X Y = (do pure (.bool (!(← Op.equal t X Y)))) := by
  constructor <;> cases X <;> first | exact absurd rfl (h _ _) | exact absurd rfl (hs _) | exact absurd rfl (hf _ _) | exact absurd rfl (hc _ _ _) | rfl

theorem run_eqGuard_nil {w : World} (op : BinOp) (t : TypeId) (x y : Operand) (hc : (isConstNil x || isConstNil y) = true) : (eqGuard op t x y .nilIface .nilIface).run P w = .ok () w := by
  unfold eqGuard
  cases op <;> cases x <;> cases y <;> first | rfl | (simp [isConstNil] at hc)

theorem run_eqGuard2 {w : World} (op : BinOp) (t : TypeId) (x y : Operand) (X Y : Value) (hn : ¬ (X = .nilIface ∧ Y = .nilIface)) (ha : ∀ cs, X ≠ .agg cs) : (eqGuard op t x y X Y).run P w = .ok () w := by
  by_cases h : X = .nilIface
  · subst h
    have hY : Y ≠ .nilIface := fun e => hn ⟨rfl, e⟩
    unfold eqGuard
    cases Y <;> first | exact absurd rfl hY | (cases op <;> rfl)
  · exact run_eqGuard op t x y X Y ha h

/-- The last premise: an interface's '==' is told where one side is a literal. -/
theorem ok_eqv {t u : TypeId} {op : BinOp} {ne : Bool} {x y : Operand} {a b : AO} {q : KT} (ho : o.op = .binOp op t x y u) (hop : op = if ne then .neq else .eql) (hq : trKT P t = some q)
    (hni : q = .one .iface → isConstNil x || isConstNil y) (hnb : q ≠ .one .int ∧ q ≠ .one .str) (hx : trO x = some a) (hy : trO y = some b) : OpOk P o (.eqv ne q a b) :=
  .same fun CR F w0 ι n ρ H w act v H' R RR he => by
    have h1 := trO_rel RR hx
    have h2 := trO_rel RR hy
    simp only [evOp] at he
    split at he
    · rename_i r hr
      simp only [Option.some.injEq, Prod.mk.injEq] at he
      obtain ⟨rfl, rfl⟩ := he
      refine ⟨rfl, _, ?_, .bool _⟩
      have heq := aeq_spec (w := w) hq h1 h2 hr
      have hv := aeq_vals hr h1 h2
      simp only [execOp, ho]
      refine run_v ?_
      have hguard : (eqGuard op t x y (act.eval x) (act.eval y)).run P w = .ok () w := by
        rcases hv with ⟨cs, ds, ks, e1, e2, e3⟩ | ⟨e1, e2⟩
        · rw [e1, e2]
          obtain ⟨d, hd, hcase⟩ := trKT_spec hq
          rcases hcase with ⟨k, hk, _⟩ | ⟨fs, ks', _, _, _, hg⟩
          · rw [e3] at hk; cases hk
          · exact run_eqGuard_agg w op t x y cs ds hg
        · by_cases hnil : act.eval x = .nilIface ∧ act.eval y = .nilIface
          · have hqi : q = .one .iface := by
              obtain ⟨i1, i2⟩ := hnil
              rw [i1] at h1
              rw [i2] at h2
              generalize a.ev ρ = A at h1 hr
              generalize b.ev ρ = B at h2 hr
              cases q with
              | agg ks => cases h1 <;> simp [aeq] at hr
              | one k => cases h1 <;> cases h2 <;> cases k <;> simp [aeq, eq1] at hr <;> rfl
            have hc := hni hqi
            rw [hnil.1, hnil.2]
            exact run_eqGuard_nil op t x y hc
          · exact run_eqGuard2 op t x y _ _ hnil e1
      have hnot : (∀ k a, act.eval x ≠ .int k a) ∧ (∀ s, act.eval x ≠ .string s) ∧ (∀ k b, act.eval x ≠ .float k b) ∧ (∀ k a b, act.eval x ≠ .complex k a b) := by
        generalize act.eval x = X at h1
        generalize act.eval y = Y at h2
        generalize a.ev ρ = A at h1 hr
        generalize b.ev ρ = B at h2 hr
        refine ⟨?_, ?_, ?_, ?_⟩ <;> intros <;> intro e <;> subst e
        · cases h1 <;> cases q <;> simp [aeq] at hr
          · rename_i k; cases k <;> simp [eq1] at hr
          · rename_i k; cases k <;> first | exact hnb.1 rfl | (simp [eq1] at hr)
        · cases h1 <;> cases q <;> simp [aeq] at hr
          · rename_i k; cases k <;> simp [eq1] at hr
          · rename_i k; cases k <;> first | exact hnb.2 rfl | (simp [eq1] at hr)
        · cases h1 <;> cases q <;> simp [aeq] at hr
          rename_i k; cases k <;> simp [eq1] at hr
        · cases h1 <;> cases q <;> simp [aeq] at hr
          rename_i k; cases k <;> simp [eq1] at hr
      obtain ⟨be, bn⟩ := binOp_eql (t := t) (Y := act.eval y) hnot.1 hnot.2.1 hnot.2.2.1 hnot.2.2.2
      simp only [Sem.run_bind, hguard, Result.andThen_ok]
      cases ne
      · simp only [Bool.false_eq_true, if_false] at hop
        rw [hop, be]
        simp [heq]
      · simp only [if_true] at hop
        rw [hop, bn]
        simp [heq]
    · cases he

theorem ok_eqx {t u : TypeId} {op : BinOp} {ne : Bool} {x y : Operand} {a b : AO} {ms : Array (String × TypeId)} (ho : o.op = .binOp op t x y u) (hop : op = if ne then .neq else .eql) (hd : P.underlying t = some (.interface ms))
    (hx : trO x = some a) (hy : trO y = some b) : OpOk P o (.eqv ne (.one .ifx) a b) :=
  .same fun CR F w0 ι n ρ H w act v H' R RR he => by
    have h1 := trO_rel RR hx
    have h2 := trO_rel RR hy
    simp only [evOp] at he
    split at he
    · rename_i r hr
      simp only [Option.some.injEq, Prod.mk.injEq] at he
      obtain ⟨rfl, rfl⟩ := he
      refine ⟨rfl, _, ?_, .bool _⟩
      simp only [aeq] at hr
      generalize hA : a.ev ρ = A at h1 hr
      generalize hB : b.ev ρ = B at h2 hr
      have key : r = false ∧ (Op.equal t (act.eval x) (act.eval y)).run P w = .ok false w ∧ ¬ (act.eval x = .nilIface ∧ act.eval y = .nilIface) ∧ ((act.eval x = .nilIface) ∨ ∃ t v, act.eval x = .iface t v) := by
        generalize act.eval x = X at h1
        generalize act.eval y = Y at h2
        cases h1 <;> cases h2 <;> try (simp [eq1] at hr; done)
        · rename_i t1 v1 v1' _ t2 v2 v2' _
          simp only [eq1] at hr
          split at hr
          · cases hr
          · rename_i hne
            injection hr with hr
            exact ⟨hr.symm, (show ∀ m, (Op.equalIn (m + 1) t (.iface t1 v1') (.iface t2 v2')).run P w = .ok false w from fun m => by simp [Op.equalIn, run_underlying hd, hne]) 9999, by simp, .inr ⟨_, _, rfl⟩⟩
        · simp only [eq1, Option.some.injEq] at hr
          exact ⟨hr.symm, (show ∀ m, (Op.equalIn (m + 1) t (.iface _ _) .nilIface).run P w = .ok false w from fun m => by simp [Op.equalIn, run_underlying hd]) 9999, by simp, .inr ⟨_, _, rfl⟩⟩
        · simp only [eq1, Option.some.injEq] at hr
          exact ⟨hr.symm, (show ∀ m, (Op.equalIn (m + 1) t .nilIface (.iface _ _)).run P w = .ok false w from fun m => by simp [Op.equalIn, run_underlying hd]) 9999, by simp, .inl rfl⟩
      obtain ⟨rfl, heq, hnn, hform⟩ := key
      have hnotagg : ∀ cs, act.eval x ≠ .agg cs := by
        intro cs e
        rcases hform with h | ⟨t, v, h⟩ <;> rw [e] at h <;> cases h
      have hguard := run_eqGuard2 (P := P) (w := w) op t x y _ _ hnn hnotagg
      have hnot : (∀ k a, act.eval x ≠ .int k a) ∧ (∀ s, act.eval x ≠ .string s) ∧ (∀ k b, act.eval x ≠ .float k b) ∧ (∀ k a b, act.eval x ≠ .complex k a b) := by
        refine ⟨?_, ?_, ?_, ?_⟩ <;> intros <;> intro e <;> rcases hform with h | ⟨t, v, h⟩ <;> rw [e] at h <;> cases h
      obtain ⟨be, bn⟩ := binOp_eql (t := t) (Y := act.eval y) hnot.1 hnot.2.1 hnot.2.2.1 hnot.2.2.2
      simp only [execOp, ho]
      refine run_v ?_
      simp only [Sem.run_bind, hguard, Result.andThen_ok]
      cases ne
      · simp only [Bool.false_eq_true, if_false] at hop
        rw [hop, be]
        simp [heq]
      · simp only [if_true] at hop
        rw [hop, bn]
        simp [heq]
    · cases he

/-! ### Memory -/
theorem run_loadVar_one {w : World} {t : TypeId} {d : TypeDesc} {p : Addr} {v : Value} (hd : P.underlying t = some d) (ha : isAggD d = false) (hc : w.cell? p = some v) : (loadVar t p).run P w = .ok v w := by
  simp [loadVar, rAgg w hd, ha, hc]
theorem run_loadVar_agg {w : World} {t : TypeId} {d : TypeDesc} {i : TypeInfo} {p : Addr} {cs : List Value} (hd : P.underlying t = some d) (hi : P.info? t = some i) (ha : isAggD d = true) (hl : cs.length = i.size)
    (hc : ∀ j v, cs[j]? = some v → w.cell? (p.add j) = some v) : (loadVar t p).run P w = .ok (.agg cs.toArray) w := by
  have := run_loadCells_list (P := P) (w := w) p cs hc
  rw [hl] at this
  simp [loadVar, rAgg w hd, ha, rSize w hi, this]

theorem trN_spec {t : TypeId} {N : Option Nat} (h : trN P t = some N) : ∃ d i, P.underlying t = some d ∧ P.info? t = some i ∧ N = if isAggD d then some i.size else none := by
  unfold trN at h
  split at h
  · rename_i d i hd hi; injection h with h; exact ⟨d, i, hd, hi, h.symm⟩
  · cases h

def loadAny (H : AH) (p : Nat × Nat) : Option Nat → Option AVal
  | none => H.load1 p
  | some n => (H.loadN p n).map .agg
/-- A variable that is read. -/
theorem run_loadVar {CR : CodeRel} {F : Nat → Option Obj} {w0 : World} {ι : Inj} {H : AH} {w : World} (R : Rel CR F w0 ι H w) {t : TypeId} {N : Option Nat} (hN : trN P t = some N) {b i g o' N' : Nat} (hb : ι b = some (g, o', N')) {v : AVal}
    (h : loadAny H (b, i) N = some v) : ∃ v', (loadVar t ⟨g, o' + i, none⟩).run P w = .ok v' w ∧ VRel ι v v' := by
  obtain ⟨d, j, hd, hj, rfl⟩ := trN_spec hN
  by_cases ha : isAggD d = true
  · simp only [ha, if_true, loadAny, Option.map_eq_some_iff] at h
    obtain ⟨l, hl, rfl⟩ := h
    obtain ⟨l', h1, h2, h3⟩ := R.cellsN hl hb
    exact ⟨_, run_loadVar_agg hd hj ha h1 h3, .agg _ _ h2⟩
  · rw [Bool.not_eq_true] at ha
    simp only [ha, Bool.false_eq_true, if_false, loadAny] at h
    obtain ⟨v', h1, h2⟩ := R.cell1 h hb
    exact ⟨v', run_loadVar_one hd ha h1, h2⟩

theorem ok_load {t : TypeId} {x : Operand} {a : AO} {N : Option Nat} (ho : o.op = .load t x) (hN : trN P t = some N) (hx : trO x = some a) : OpOk P o (.load N a) :=
  .same fun CR F w0 ι n ρ H w act v H' R RR he => by
    have h1 := trO_rel RR hx
    generalize hX : act.eval x = X at h1
    have key : ∀ b i g o' N', ι b = some (g, o', N') → X = .pointer (some ⟨g, o' + i, none⟩) → loadAny H (b, i) N = some v →
        ∃ v', (execOp act.eval o).run P w = .ok (.value v') w ∧ VRel ι v v' := by
      intro b i g o' N' hb hXe hl
      obtain ⟨v', h2, h3⟩ := run_loadVar R hN hb hl
      refine ⟨v', ?_, h3⟩
      simp only [execOp, ho]
      refine run_v ?_
      simp [Instr.loadAt, hX, hXe, Instr.sureAddr, h2]
    cases N with
    | none =>
      simp only [evOp] at he
      generalize a.ev ρ = A at h1 he
      cases h1 <;> try (simp at he; done)
      rename_i b i g o' N' hb
      dsimp only at he
      split at he
      · rename_i u hu
        simp only [Option.some.injEq, Prod.mk.injEq] at he
        obtain ⟨rfl, rfl⟩ := he
        exact ⟨rfl, key b i g o' N' hb rfl hu⟩
      · cases he
    | some n =>
      simp only [evOp] at he
      generalize a.ev ρ = A at h1 he
      cases h1 <;> try (simp at he; done)
      rename_i b i g o' N' hb
      dsimp only at he
      split at he
      · rename_i u hu
        simp only [Option.some.injEq, Prod.mk.injEq] at he
        obtain ⟨rfl, rfl⟩ := he
        exact ⟨rfl, key b i g o' N' hb rfl (by simp [loadAny, hu])⟩
      · cases he

theorem VsRel.allCell {ι : Inj} : ∀ {vs : List AVal} {vs' : List Value}, VsRel ι vs vs' → vs.all AVal.isCell = true → ∀ v ∈ vs', v.oneCell' = true
  | _, _, .nil, _ => by simp
  | _, _, .cons v v' vs vs' r rs, h => by
    simp only [List.all_cons, Bool.and_eq_true] at h
    intro u hu
    rcases List.mem_cons.1 hu with rfl | hu
    · exact isCell_one r h.1
    · exact VsRel.allCell rs h.2 u hu

/-- Cells that are written. -/
theorem run_storeN {CR : CodeRel} {F : Nat → Option Obj} {w0 : World} {ι : Inj} {H H' : AH} {w : World} (R : Rel CR F w0 ι H w) {b i g o' N' : Nat} (hb : ι b = some (g, o', N')) {xs : List AVal} {xs' : List Value} (hx : VsRel ι xs xs') (h : H.storeN (b, i) xs = some H') :
    ∃ w', (storeCells ⟨g, o' + i, none⟩ xs').run P w = .ok () w' ∧ Rel CR F w0 ι H' w' := by
  unfold AH.storeN at h
  split at h
  · rename_i vs hg
    dsimp only at h hg
    split at h
    · rename_i hc
      obtain ⟨hlen, hall⟩ := hc
      injection h with h
      subst h
      obtain ⟨g', off, N', x, e1, e2, e3⟩ := R.blk b _ hg rfl
      rw [hb] at e1
      injection e1 with e1
      injection e1 with ea eb
      injection eb with eb ec
      subst ea eb
      cases e3 with
      | cells _ _ _ C T fz c1 c2 c3 =>
        by_cases hnil : xs' = []
        · subst hnil
          have : xs = [] := List.eq_nil_of_length_eq_zero (by simpa using hx.length)
          subst this
          refine ⟨w, rfl, ?_⟩
          have hsp : splice vs i [] = vs := by simp [splice]
          rw [hsp]
          refine R.put hg rfl hb ⟨rfl, rfl, rfl, rfl, fun _ _ => rfl⟩ e2 (fun _ => ec ▸ .cells _ _ _ C T fz c1 c2 c3) (fun _ => rfl)
        · have hxl : 0 < xs'.length := by
            cases xs' with
            | nil => exact absurd rfl hnil
            | cons _ _ => simp
          have hxlen := hx.length
          obtain ⟨w', C', s1, s2, s3, s4⟩ := run_storeCells (P := P) g T fz xs' w C (o' + i) 0 e2 (VsRel.allCell hx hall) (by omega)
            (fun j _ hj => c2 rfl _ (by omega))
          refine ⟨w', s1, ?_⟩
          have hCs : C'.size = C.size := by
            have := congrArg List.length s3
            simp [spliceV] at this
            omega
          refine R.put hg rfl hb s4 s2 (fun _ => ec ▸ hCs ▸ .cells _ _ _ C' T fz ?_ ?_ ?_) (fun _ => rfl)
          · intro k v hk
            have hget : ∀ k, C'[k]? = (spliceV C.toList (o' + i) xs')[k]? := fun k => by rw [← Array.getElem?_toList, s3]; rfl
            rw [hget]
            unfold splice at hk
            unfold spliceV
            have hvl : i + xs.length ≤ vs.length := hlen
            have hCl : o' + i + xs'.length ≤ C.toList.length := by
              simp; omega
            rw [List.append_assoc, List.getElem?_append] at hk
            rw [List.append_assoc, List.getElem?_append]
            simp only [List.length_take] at hk ⊢
            rw [Nat.min_eq_left (by omega)] at hk ⊢
            by_cases hk1 : k < i
            · rw [if_pos hk1, List.getElem?_take, if_pos hk1] at hk
              rw [if_pos (by omega), List.getElem?_take, if_pos (by omega), Array.getElem?_toList]
              exact c1 k v hk
            · rw [if_neg hk1, List.getElem?_append] at hk
              rw [if_neg (by omega), List.getElem?_append]
              by_cases hk2 : k - i < xs.length
              · rw [if_pos hk2] at hk
                rw [if_pos (by omega)]
                obtain ⟨v', h1, h2⟩ := hx.get _ _ hk
                exact ⟨v', by rw [show o' + k - (o' + i) = k - i from by omega]; exact h1, h2⟩
              · rw [if_neg hk2, List.getElem?_drop] at hk
                rw [if_neg (by omega), List.getElem?_drop, Array.getElem?_toList]
                have hkk : i + xs.length + (k - i - xs.length) = k := by omega
                rw [hkk] at hk
                obtain ⟨v', h1, h2⟩ := c1 k v hk
                refine ⟨v', ?_, h2⟩
                rw [show o' + i + xs'.length + (o' + k - (o' + i) - xs'.length) = o' + k from by omega]
                exact h1
          · intro _ j hj
            rw [hCs] at hj
            exact c2 rfl j hj
          · rw [splice_length _ _ _ hlen, hCs]
            exact c3
    · cases h
  · cases h

theorem trSz_spec {t : TypeId} {n : Nat} (h : trSz P t = some n) : ∃ i, P.info? t = some i ∧ n = i.size := by
  unfold trSz at h
  split at h
  · rename_i i hi; injection h with h; exact ⟨i, hi, h.symm⟩
  · cases h

theorem VRel.cells' {ι : Inj} {v : AVal} {v' : Value} (h : VRel ι v v') (hu : ∀ n, v.cells.length = n → v.cells.all AVal.isCell = true → VsRel ι v.cells v'.cells.toList) : True := trivial

theorem ok_store {t : TypeId} {x y : Operand} {a b : AO} {n : Nat} (ho : o.op = .store t x y) (hn : trSz P t = some n) (hx : trO x = some a) (hy : trO y = some b) : OpOk P o (.store n a b) := by
  intro CR F w0 ι m ρ H w act v H' R RR he
  have h1 := trO_rel RR hx
  have h2 := trO_rel RR hy
  obtain ⟨i, hi, rfl⟩ := trSz_spec hn
  simp only [evOp] at he
  generalize hX : act.eval x = X at h1
  generalize hY : act.eval y = Y at h2
  generalize a.ev ρ = A at h1 he
  generalize b.ev ρ = B at h2 he
  cases h1 <;> try (simp at he; done)
  rename_i q i' g o' N' hq
  dsimp only at he
  split at he
  · rename_i hlen
    split at he
    · rename_i H1 hs
      simp only [Option.some.injEq, Prod.mk.injEq] at he
      obtain ⟨rfl, rfl⟩ := he
      have hne : B ≠ .tup [] := by
        intro e
        subst e
        unfold AH.storeN at hs
        split at hs
        · split at hs
          · rename_i hc; simp [AVal.cells, AVal.isCell] at hc
          · cases hs
        · cases hs
      have hc := h2.cells hne
      obtain ⟨w', s1, s2⟩ := run_storeN (P := P) R hq hc hs
      refine ⟨.skip, undef, w', ι, ?_, .inr ⟨rfl, rfl⟩, .und _, Inj.le.refl _, s2⟩
      simp only [execOp, ho]
      refine run_u ?_
      have hsz : Y.cells.size = i.size := by
        have := hc.length
        simpa [hlen] using this.symm
      simp [Instr.storeAt, hX, hY, Instr.sureAddr, storeVar, rSize w hi, hsz, s1]
    · cases he
  · cases he
end ops
end Rst
/- What each translated operation does in the model: literals, new blocks, bytes and strings. -/
set_option linter.unusedVariables false
set_option linter.unusedSimpArgs false
namespace Rst
open Go

theorem fold_splice (off : Nat) : ∀ (l : List Value) (k : Nat) (C : Array Value), off + k + l.length ≤ C.size →
    ((l.zipIdx k).foldl (fun cs (c, j) => cs.setIfInBounds (off + j) c) C).toList = spliceV C.toList (off + k) l := by
  intro l
  induction l with
  | nil => intro k C _; simp [spliceV]
  | cons v l ih =>
    intro k C h
    simp only [List.length_cons] at h
    simp only [List.zipIdx_cons, List.foldl_cons]
    rw [ih (k + 1) _ (by simp; omega), Array.toList_setIfInBounds, ← Nat.add_assoc]
    exact spliceV_set _ _ _ _ (by simp; omega)

theorem fill_spec {ι : Inj} {n : Nat} {ρ : Rg} {act : Act} (RR : RRel ι n ρ act.tmps) {place : Nat → Option (Nat × Nat)} : ∀ {parts : List (Nat × Operand)} {l : List (Nat × Nat × AO)}, trParts place parts = some l →
    ∀ {cells : List AVal} {cells' : Array Value} {r : List AVal}, VsRel ι cells cells'.toList → fillIn cells (pairs ρ l) = some r →
    ∃ r', Instr.fill place cells' (parts.map fun (i, x) => (i, act.eval x)) = some r' ∧ VsRel ι r r'.toList := by
  intro parts
  induction parts with
  | nil =>
    intro l h cells cells' r hc hf
    simp only [trParts, Option.some.injEq] at h
    subst h
    simp only [pairs, List.map_nil, fillIn, Option.some.injEq] at hf
    subst hf
    exact ⟨cells', rfl, hc⟩
  | cons p parts ih =>
    obtain ⟨i, x⟩ := p
    intro l h cells cells' r hc hf
    simp only [trParts] at h
    split at h
    · rename_i off s a l' hp ha hl
      injection h with h
      subst h
      simp only [pairs, List.map_cons, fillIn] at hf
      split at hf
      · rename_i hcond
        obtain ⟨hval, hlen, hoff⟩ := hcond
        have hv := trO_rel RR ha
        have hne : a.ev ρ ≠ .tup [] := fun e => by rw [e] at hval; simp [AVal.isVal] at hval
        have hvc := hv.cells hne
        have hsz : (act.eval x).cells.size = s := by
          have := hvc.length
          simpa [hlen] using this.symm
        have hcl := hc.length
        simp only [Array.length_toList] at hcl
        have hnew : VsRel ι (splice cells off (a.ev ρ).cells) ((act.eval x).cells.zipIdx.foldl (fun cs (c, j) => cs.setIfInBounds (off + j) c) cells').toList := by
          rw [← Array.foldl_toList, Array.toList_zipIdx]
          rw [fold_splice off _ 0 cells' (by simp [hsz]; omega)]
          exact hc.splice hvc off
        obtain ⟨r', h1, h2⟩ := ih hl hnew hf
        refine ⟨r', ?_, h2⟩
        simp only [List.map_cons, Instr.fill, hp]
        rw [if_neg]
        · exact h1
        · simp only [hsz, ne_eq, not_true_eq_false, decide_false, Bool.false_or, decide_eq_true_eq]
          omega
      · cases hf
    · cases h

theorem trPlaces_spec {P : Program} (w : World) : ∀ {fs : List Field} {ps : List (Nat × Nat)}, trPlaces P fs = some ps → (fs.mapM fun f => (do pure (f.offset, ← Go.sizeOf f.type) : Sem (Nat × Nat))).run P w = .ok ps w := by
  intro fs
  induction fs with
  | nil => intro ps h; simp [trPlaces] at h; subst h; rfl
  | cons f fs ih =>
    intro ps h
    simp only [trPlaces] at h
    split at h
    · rename_i i l hi hl
      injection h with h
      subst h
      simp [List.mapM_cons, rSize w hi]
      have := ih hl
      simp at this
      simp [this]
    · cases h

theorem BRel.of_cells {CR : CodeRel} {ι : Inj} {own : Bool} {vs : List AVal} {C : Array Value} {T : TypeId} (h : VsRel ι vs (C.toList.take vs.length)) : BRel CR ι (.cells own vs) 0 C.size (.cells C T) := by
  refine .cells own vs 0 C T (0, 0) (fun i v hi => ?_) (fun _ i _ => by simp) (by have := h.length; simp at this; omega)
  obtain ⟨v', h1, h2⟩ := h.get i v hi
  have hlt := (List.getElem?_eq_some_iff.1 hi).1
  rw [List.getElem?_take, if_pos hlt] at h1
  exact ⟨v', by simpa using h1, h2⟩
theorem BRel.of_cells' {CR : CodeRel} {ι : Inj} {own : Bool} {vs : List AVal} {C : Array Value} {T : TypeId} (h : VsRel ι vs C.toList) : BRel CR ι (.cells own vs) 0 C.size (.cells C T) := by
  refine BRel.of_cells ?_
  rw [List.take_of_length_le (by rw [h.length]; exact Nat.le_refl _)]
  exact h

section ops
variable {P : Program} {o : Oper}

/-- A new block, and its address. -/
theorem alloc_ok {CR : CodeRel} {F : Nat → Option Obj} {w0 : World} {ι : Inj} {H : AH} {w : World} {s : Sem Value} (R : Rel CR F w0 ι H w) {b : ABlk} {x : Obj} {v : AVal} {v' : Value} {N : Nat} (hb : BRel CR ι b 0 N x) (hl : b.live = true)
    (hrun : s.run P w = .ok v' (w.alloc x)) (hv : VRel (ι.upd H.next (w.heap.size, 0, N)) v v') :
    ∃ nx v' w' ι', (do pure (Next.value (← s)) : Sem Next).run P w = .ok nx w' ∧ (nx = .value v' ∨ nx = .skip ∧ v' = undef) ∧ VRel ι' v v' ∧ ι.le ι' ∧ Rel CR F w0 ι' (H.alloc b) w' :=
  ⟨_, v', _, _, run_v hrun, .inl rfl, hv, R.le_upd _, R.alloc hb hl⟩

theorem ok_alloc {t : TypeId} {z : AVal} (ho : o.op = .alloc t) (hz : trZ P t = some z) (hval : z.isVal = true) : OpOk P o (.alloc z.cells) := by
  intro CR F w0 ι m ρ H w act v H' R RR he
  obtain ⟨i, zv, hi, hzv, hzr⟩ := trZ_spec hz
  simp only [evOp, Option.some.injEq, Prod.mk.injEq] at he
  obtain ⟨rfl, rfl⟩ := he
  have hne : z ≠ .tup [] := fun e => by rw [e] at hval; simp [AVal.isVal] at hval
  simp only [execOp, ho]
  refine alloc_ok R (x := .cells zv.cells t) (BRel.of_cells' ((hzr ι).cells hne)) rfl (v' := .pointer (some ⟨w.heap.size, 0, none⟩)) ?_ (.ptr _ 0 _ 0 _ (upd_same _ _ _))
  simp [Instr.alloc, rZero w hi hzv, newVar, newRow]

theorem ok_box {t : TypeId} {x : Operand} {a : AO} {n : Nat} (ho : o.op = .box t x) (hx : trO x = some a) : OpOk P o (.box n a) := by
  intro CR F w0 ι m ρ H w act v H' R RR he
  have h1 := trO_rel RR hx
  simp only [evOp] at he
  split at he
  · rename_i hc
    simp only [Option.some.injEq, Prod.mk.injEq] at he
    obtain ⟨rfl, rfl⟩ := he
    have hne : a.ev ρ ≠ .tup [] := fun e => by rw [e] at hc; simp [AVal.isVal] at hc
    simp only [execOp, ho]
    refine alloc_ok R (x := .cells (act.eval x).cells t) (BRel.of_cells' (h1.cells hne)) rfl (v' := .pointer (some ⟨w.heap.size, 0, none⟩)) ?_ (.ptr _ 0 _ 0 _ (upd_same _ _ _))
    simp [Instr.box, newVar, newRow]
  · cases he

theorem ok_build {t : TypeId} {parts : Array (Nat × Operand)} {fs : Array Field} {z : AVal} {ps : List (Nat × Nat)} {l : List (Nat × Nat × AO)} (ho : o.op = .build t parts) (hd : P.underlying t = some (.struct fs)) (hz : trZ P t = some z)
    (hval : z.isVal = true) (hps : trPlaces P fs.toList = some ps) (hl : trParts (ps[·]?) parts.toList = some l) : OpOk P o (.build z.cells l) :=
  .same fun CR F w0 ι n ρ H w act v H' R RR he => by
    obtain ⟨i, zv, hi, hzv, hzr⟩ := trZ_spec hz
    have hne : z ≠ .tup [] := fun e => by rw [e] at hval; simp [AVal.isVal] at hval
    simp only [evOp] at he
    split at he
    · rename_i cs hcs
      simp only [Option.some.injEq, Prod.mk.injEq] at he
      obtain ⟨rfl, rfl⟩ := he
      obtain ⟨r', h1, h2⟩ := fill_spec RR hl ((hzr ι).cells hne) hcs
      refine ⟨rfl, .agg r', ?_, by simpa using VRel.agg _ _ h2⟩
      simp only [execOp, ho]
      refine run_v ?_
      have hp := trPlaces_spec (P := P) w hps
      have hfill : Instr.fill (fun x => ps[x]?) zv.cells (List.map (fun x => (x.fst, act.eval x.snd)) parts.toList) = some r' := h1
      simp at hp
      simp [Instr.build, rZero w hi hzv, run_underlying hd, Array.mapM_eq_mapM_toList, hp, hfill]
    · cases he

theorem ok_buildArr {t e : TypeId} {n : Nat} {parts : Array (Nat × Operand)} {z : AVal} {i : TypeInfo} {l : List (Nat × Nat × AO)} (ho : o.op = .build t parts) (hd : P.underlying t = some (.array n e)) (hz : trZ P t = some z)
    (hval : z.isVal = true) (hi : P.info? e = some i) (hl : trParts (fun k => some (k * i.size, i.size)) parts.toList = some l) : OpOk P o (.build z.cells l) :=
  .same fun CR F w0 ι _ ρ H w act v H' R RR he => by
    obtain ⟨j, zv, hj, hzv, hzr⟩ := trZ_spec hz
    have hne : z ≠ .tup [] := fun e => by rw [e] at hval; simp [AVal.isVal] at hval
    simp only [evOp] at he
    split at he
    · rename_i cs hcs
      simp only [Option.some.injEq, Prod.mk.injEq] at he
      obtain ⟨rfl, rfl⟩ := he
      obtain ⟨r', h1, h2⟩ := fill_spec RR hl ((hzr ι).cells hne) hcs
      refine ⟨rfl, .agg r', ?_, by simpa using VRel.agg _ _ h2⟩
      simp only [execOp, ho]
      refine run_v ?_
      have hfill : Instr.fill (fun k => some (k * i.size, i.size)) zv.cells (List.map (fun x => (x.fst, act.eval x.snd)) parts.toList) = some r' := h1
      simp [Instr.build, rZero w hj hzv, run_underlying hd, rSize w hi, hfill]
    · cases he

theorem VsRel.reps {ι : Inj} {z : List AVal} {z' : List Value} (h : VsRel ι z z') : ∀ n, VsRel ι (reps n z) ((List.range (n * z.length)).map fun k => z'[k % z.length]?.getD default) := by
  intro n
  induction n with
  | zero => simp [Rst.reps]; exact .nil
  | succ n ih =>
    have hl := h.length
    have e : (List.range ((n + 1) * z.length)).map (fun k => z'[k % z.length]?.getD default) = z' ++ (List.range (n * z.length)).map (fun k => z'[k % z.length]?.getD default) := by
      rw [show (n + 1) * z.length = z.length + n * z.length from by rw [Nat.add_mul, Nat.one_mul, Nat.add_comm]]
      rw [List.range_add, List.map_append, List.map_map]
      congr 1
      · apply List.ext_getElem?
        intro k
        by_cases hk : k < z.length
        · simp [hk, Nat.mod_eq_of_lt hk, show k < z'.length from by omega]
        · simp [hk, show ¬ k < z'.length from by omega]
      · apply List.map_congr_left
        intro k _
        simp
    rw [e]
    exact h.append ih

theorem reps_len (z : List AVal) : ∀ n, (reps n z).length = n * z.length := by
  intro n
  induction n with
  | zero => simp [Rst.reps]
  | succ n ih => simp [Rst.reps, ih, Nat.add_mul, Nat.add_comm]
theorem fillIn_len : ∀ {l : List (Nat × Nat × AVal)} {cells r : List AVal}, fillIn cells l = some r → r.length = cells.length := by
  intro l
  induction l with
  | nil => intro cells r h; simp [fillIn] at h; rw [h]
  | cons p l ih =>
    obtain ⟨o, s, v⟩ := p
    intro cells r h
    simp only [fillIn] at h
    split at h
    · rename_i hc
      rw [ih h, splice_length _ _ _ (by omega)]
    · cases h
theorem zeros_eq {z' : Array Value} {n : Nat} : ((Array.range n).map (fun k => z'[k % z'.size]!)).toList = (List.range n).map fun k => z'.toList[k % z'.toList.length]?.getD default := by
  simp [Array.toList_map, Array.toList_range]
  intro a _
  rw [getElem!_def]
  split <;> rename_i h <;> simp_all

theorem isVal_ne {z : AVal} (h : z.isVal = true) : z ≠ .tup [] := fun e => by rw [e] at h; simp [AVal.isVal] at h

theorem ok_buildS {t e : TypeId} {n : Nat} {parts : Array (Nat × Operand)} {z : AVal} {i : TypeInfo} {l : List (Nat × Nat × AO)} (ho : o.op = .buildSlice t n parts) (hd : P.underlying t = some (.slice e)) (hi : P.info? e = some i)
    (hlim : n * i.size ≤ 16777216) (hn : n * i.size ≠ 0) (hz : trZ P e = some z) (hval : z.isVal = true) (hsz : z.cells.length = i.size) (hl : trParts (fun k => some (k * i.size, i.size)) parts.toList = some l) : OpOk P o (.buildS z.cells n i.size l) := by
  intro CR F w0 ι _ ρ H w act v H' R RR he
  obtain ⟨j, zv, hj, hzv, hzr⟩ := trZ_spec hz
  simp only [evOp] at he
  split at he
  · rename_i cs hcs
    simp only [Option.some.injEq, Prod.mk.injEq] at he
    obtain ⟨rfl, rfl⟩ := he
    have hzc := (hzr ι).cells (isVal_ne hval)
    have hzl : zv.cells.size = i.size := by
      have := hzc.length
      simpa [hsz] using this.symm
    have hreps := VsRel.reps hzc n
    rw [hsz] at hreps
    have hlist : ((Array.range (n * i.size)).map (fun k => zv.cells[k % zv.cells.size]!)).toList = (List.range (n * i.size)).map fun k => zv.cells.toList[k % i.size]?.getD default := by
      rw [zeros_eq]
      simp [hzl]
    rw [← hlist] at hreps
    obtain ⟨r', h1, h2⟩ := fill_spec RR hl hreps hcs
    simp only [execOp, ho]
    refine alloc_ok R (x := .cells r' e) (BRel.of_cells' h2) rfl (v' := .slice (some ⟨w.heap.size, 0, none⟩) n n) ?_ (.slice _ 0 _ 0 _ _ _ _ _ (upd_same _ _ _) (Nat.le_refl _) (Nat.le_refl _) (fun h => h) (by have := h2.length; have hq := fillIn_len hcs; simp [reps_len, hsz] at this hq ⊢; omega))
    have hfill : Instr.fill (fun k => some (k * i.size, i.size)) ((Array.range (n * i.size)).map (fun k => zv.cells[k % zv.cells.size]!)) (List.map (fun x => (x.fst, act.eval x.snd)) parts.toList) = some r' := h1
    simp [Instr.buildSlice, run_underlying hd, rSize w hi, show ¬ (n * i.size > 2 ^ 24) from by omega, hn, rZero w hj hzv, hfill, newRow]
  · cases he

theorem ok_buildS0 {t e : TypeId} {n : Nat} {parts : Array (Nat × Operand)} {i : TypeInfo} {l : List (Nat × Nat × AO)} (ho : o.op = .buildSlice t n parts) (hd : P.underlying t = some (.slice e)) (hi : P.info? e = some i)
    (hn : n * i.size = 0) (hl : trParts (fun k => some (k * i.size, i.size)) parts.toList = some l) : OpOk P o (.buildS [] n i.size l) := by
  intro CR F w0 ι _ ρ H w act v H' R RR he
  simp only [evOp] at he
  split at he
  · rename_i cs hcs
    simp only [Option.some.injEq, Prod.mk.injEq] at he
    obtain ⟨rfl, rfl⟩ := he
    have hr : reps n ([] : List AVal) = [] := by
      clear hn ho hcs
      induction n with
      | zero => rfl
      | succ n ih => simp [reps, ih]
    rw [hr] at hcs
    obtain ⟨r', h1, h2⟩ := fill_spec RR hl (cells' := #[]) .nil hcs
    simp only [execOp, ho]
    refine alloc_ok R (x := .cells r' e) (BRel.of_cells' h2) rfl (v' := .slice (some ⟨w.heap.size, 0, none⟩) n n) ?_ (.slice _ 0 _ 0 _ _ _ _ _ (upd_same _ _ _) (Nat.le_refl _) (Nat.le_refl _) (fun h => h) (by have := h2.length; have hq := fillIn_len hcs; simp at this hq ⊢; omega))
    have hfill : Instr.fill (fun k => some (k * i.size, i.size)) #[] (List.map (fun x => (x.fst, act.eval x.snd)) parts.toList) = some r' := h1
    simp [Instr.buildSlice, run_underlying hd, rSize w hi, hn, hfill, newRow, show Array.range 0 = #[] from rfl]
  · cases he

theorem ok_mkM {t : TypeId} (ho : o.op = .makeMap t none) : OpOk P o .mkM := by
  intro CR F w0 ι _ ρ H w act v H' R RR he
  simp only [evOp, Option.some.injEq, Prod.mk.injEq] at he
  obtain ⟨rfl, rfl⟩ := he
  simp only [execOp, ho]
  refine alloc_ok R (x := .map #[] 0) (.map [] #[] 0 .nil) rfl (v' := .map (some w.heap.size)) ?_ (.map _ _ _ (upd_same _ _ _))
  simp [Instr.makeMap]

theorem ok_mkS {t e : TypeId} {x y : Operand} {a b : AO} {z : AVal} {i : TypeInfo} (ho : o.op = .makeSlice t x y) (hd : P.underlying t = some (.slice e)) (hi : P.info? e = some i) (hz : trZ P e = some z) (hval : z.isVal = true)
    (hsz : z.cells.length = i.size) (hpos : 0 < i.size) (hb : 0 < i.bytes) (hx : trO x = some a) (hy : trO y = some b) : OpOk P o (.mkS z.cells i.bytes a b) := by
  intro CR F w0 ι _ ρ H w act v H' R RR he
  obtain ⟨j, zv, hj, hzv, hzr⟩ := trZ_spec hz
  have h1 := trO_rel RR hx
  have h2 := trO_rel RR hy
  simp only [evOp] at he
  generalize hX : act.eval x = X at h1
  generalize hY : act.eval y = Y at h2
  generalize a.ev ρ = A at h1 he
  generalize b.ev ρ = B at h2 he
  cases h1 <;> try (simp at he; done)
  cases h2 <;> try (simp at he; done)
  rename_i k n k' m
  split at he <;> try (cases he; done)
  rename_i n' m' e1 e2
  injection e1 with q1 q2
  injection e2 with q3 q4
  subst q1 q2 q3 q4
  split at he
  · rename_i hc
    obtain ⟨c1, c2, c3⟩ := hc
    simp only [Option.some.injEq, Prod.mk.injEq] at he
    obtain ⟨rfl, rfl⟩ := he
    have hzc := (hzr ι).cells (isVal_ne hval)
    have hzl : zv.cells.size = i.size := by
      have := hzc.length
      simpa [hsz] using this.symm
    have hreps := VsRel.reps hzc m.toNat
    rw [hsz] at hreps
    have hlist : ((Array.range (m.toNat * i.size)).map (fun k => zv.cells[k % zv.cells.size]!)).toList = (List.range (m.toNat * i.size)).map fun k => zv.cells.toList[k % i.size]?.getD default := by
      rw [zeros_eq]
      simp [hzl]
    rw [← hlist] at hreps
    simp only [execOp, ho]
    have hmb : m ≤ m * i.bytes := by
      have := Int.mul_le_mul_of_nonneg_left (show (1 : Int) ≤ i.bytes by omega) (show 0 ≤ m by omega)
      omega
    have w1 : IntKind.i64.wrap n = n := by simp [IntKind.wrap, IntKind.bits, IntKind.signed]; omega
    have w2 : IntKind.i64.wrap m = m := by simp [IntKind.wrap, IntKind.bits, IntKind.signed]; omega
    refine alloc_ok R (x := .cells ((Array.range (m.toNat * i.size)).map (fun k => zv.cells[k % zv.cells.size]!)) e) (BRel.of_cells' hreps) rfl (v' := .slice (some ⟨w.heap.size, 0, none⟩) n.toNat m.toNat) ?_
      (.slice _ 0 _ 0 _ _ _ _ _ (upd_same _ _ _) (by omega) (Nat.le_refl _) (fun h => h) (by rw [hsz]; simp))
    have t1 : ¬ ((i.bytes : Int) * m > 2 ^ 48) := by rw [Int.mul_comm]; omega
    have c4 : (decide (m < 0) || decide ((i.bytes : Int) * m > 2 ^ 48) || decide (n < 0) || decide (n > m)) = false := by
      simp only [Bool.or_eq_false_iff, decide_eq_false_iff_not]
      omega
    unfold Instr.makeSlice
    simp only [hX, hY, Sem.run_bind, run_underlying hd, Result.andThen_ok, asInt, asIntOf, Sem.run_pure, rInfo w hi, w1, w2]
    rw [if_neg (by simp only [c4]; simp)]
    simp only [Sem.run_bind, run_askRoom, Result.andThen_ok, rSize w hi]
    by_cases h0 : m.toNat * i.size = 0
    · have : m.toNat = 0 := by
        rcases Nat.mul_eq_zero.1 h0 with h | h
        · exact h
        · omega
      simp [this, newRow, show Array.range 0 = #[] from rfl]
    · simp [h0, rZero w hj hzv, newRow]
  · cases he
end ops
end Rst
